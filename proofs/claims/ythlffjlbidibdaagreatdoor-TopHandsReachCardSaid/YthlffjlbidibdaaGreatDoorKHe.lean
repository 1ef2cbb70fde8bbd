/-
  Texts of a proof, merged (VmA). Conditions: in each statement.
-/
import Derived.Test.YthlffjlbidibdaaGreatDoorKHd
set_option linter.unusedSimpArgs false
set_option autoImplicit true
set_option relaxedAutoImplicit true
set_option linter.unusedVariables false
set_option linter.unusedSectionVars false
set_option maxRecDepth 100000
set_option maxHeartbeats 8000000
abbrev bN:=@Nat.lt_succ_self
abbrev cH:=@Nat.lt_irrefl
abbrev eE:=@Bool.eq_iff_iff
namespace Go.Vm
section
open Go.Am
inductive FV where
 |int (k:IntKind) (n:Int)
 |bool (b:Bool)
 |str (s:ByteArray)
 |val (x:Value)
 |agg (cs:List FV)
 |lst (e:TypeId) (cs:List FV) (n:Nat)
 |FI (cs:List FV)
 |own (e:TypeId) (cs:List FV) (n:Nat)
inductive PV where
 |p (x:FV)
 |agg (cs:List PV)
 |DK (vs:List PV)
 |vec (b tag off len:Nat)
 |ref (b off:Nat)
 |Fb (b tag off:Nat)
 |mref (b:Nat)
 |clo (f:FuncId) (fs cs:List PV)
inductive HB where
 |box (e:TypeId) (cs:List PV)
 |vec (e:TypeId) (cs:List FV) (n:Nat) (z:Bool)
 |map (es:List (FV×FV))
 |Fq (e:TypeId) (cs:List PV) (n:Nat)
 |KF (ks:List FV) (cs:List PV)
abbrev Heap:=List (Nat×HB)
abbrev Frame:=List (Nat×PV)
inductive Tg where
 |box
 |vec (n:Nat)
 |map
def Tg.le:Tg→Tg→Prop
 | .box,.box=>True
 | .map,.map=>True
 | .vec n,.vec k=>n≤k
 |_,_=>False
def HB.tag:HB→Tg
 | .box ..=>.box
 | .vec _ _ n _=>.vec n
 | .map _=>.map
 | .Fq _ _ n=>.vec n
 | .KF _ _=>.map
def hget:Heap→Nat→Option HB
 |[],_=>none
 |(a,x)::H,b=>match Nat.decEq a b with
  | .isTrue _=>some x
  | .isFalse _=>hget H b
def hput:Heap→Nat→HB→Heap
 |[],_,_=>[]
 |(a,x)::H,b,y=>match Nat.decEq a b with
  | .isTrue _=>(a,y)::H
  | .isFalse _=>(a,x)::hput H b y
def Gf:Frame→Nat→Option PV
 |[],_=>none
 |(a,x)::L,b=>match Nat.decEq a b with
  | .isTrue _=>some x
  | .isFalse _=>Gf L b
theorem BA(a:Nat)(x:HB)(H:Heap)(b:Nat):hget ((a,x)::H) b=if a=b then some x else hget H b:=by
 simp only[hget];cases Nat.decEq a b with
 |isTrue h=>grind
 |isFalse h=>grind
theorem Ew(a:Nat)(x:PV)(H:Frame)(b:Nat):Gf ((a,x)::H) b=if a=b then some x else Gf H b:=by
 simp only[Gf];cases Nat.decEq a b with
 |isTrue h=>grind
 |isFalse h=>grind
theorem FN(H:Heap)(b c:Nat)(y:HB):hget (hput H b y) c=if b=c then(hget H b).map (fun _=>y) else hget H c:=by
 induction H with
 |nil=>simp[hput,hget]
 |cons a H d =>
  obtain⟨a,x⟩:=a;simp only[hput];cases hd:Nat.decEq a b with
  |isTrue h =>
   subst h;simp only[BA];by_cases e:a=c<;>simp[e]
  |isFalse h =>
   simp only[BA,d];grind
def htag(H:Heap)(b:Nat):Option Tg:=(hget H b).map HB.tag
def Dn:Value:=.slice none 0 0
mutual
inductive RF(m:Mem)(F:Nat→Prop):FV→Value→Prop
 |int (k:IntKind) (n:Int):RF m F (.int k n) (.int k n)
 |bool (b:Bool):RF m F (.bool b) (.bool b)
 |str (s:ByteArray):RF m F (.str s) (.string s)
 |val {x:Value} (h:Am.plainCell x=true):RF m F (.val x) x
 |agg {cs:List FV} {vs:List Value} (h:Du m F cs vs) (hc:vs.all BQ=true):RF m F (.agg cs) (.agg vs.toArray)
 |nil (e:TypeId):RF m F (.lst e [] 0) (.slice none 0 0)
 |room (e:TypeId) (b o g:Nat):RF m F (.lst e [] 0) (.slice (some ⟨b,o,some g⟩) 0 0)
 |lst {e:TypeId} {cs:List FV} {n b o g:Nat} {vs ws:List Value} {ro:Bool} (hF:F b) (hm:m.get b=.cells vs e g ro) (hw:takeN cs.length (vs.drop o)=some ws) (h:Du m F cs ws) (hc:ws.all BQ=true) :
  RF m F (.lst e cs n) (.slice (some ⟨b,o,none⟩) n g)
 |FI {cs:List FV} {b o g:Nat} {sp:Option Nat} {e:TypeId} {vs ws:List Value} {ro:Bool} (hF:F b) (hm:m.get b=.cells vs e g ro) (hg:MK ⟨b,o,sp⟩=g) (hw:takeN cs.length (vs.drop o)=some ws) (h:Du m F cs ws) (hc:ws.all BQ=true) :
  RF m F (.FI cs) (.pointer (some ⟨b,o,sp⟩))
 |own {e:TypeId} {cs:List FV} {n b o g:Nat} {vs ws:List Value} (hF:F b) (hm:m.get b=.cells vs e g false) (hw:takeN cs.length (vs.drop o)=some ws) (h:Du m F cs ws) (hc:ws.all BQ=true) :
  RF m F (.own e cs n) (.slice (some ⟨b,o,none⟩) n g)
 |Vg (e:TypeId):RF m F (.own e [] 0) (.slice none 0 0)
 |TD (e:TypeId) (b o g:Nat):RF m F (.own e [] 0) (.slice (some ⟨b,o,some g⟩) 0 0)
inductive Du(m:Mem)(F:Nat→Prop):List FV→List Value→Prop
 |nil:Du m F [] []
 |cons {c:FV} {v:Value} {cs:List FV} {vs:List Value} (h:RF m F c v) (t:Du m F cs vs):Du m F (c::cs) (v::vs)
end
def Gi(s:Value)(off len:Nat)(v:Value):Prop :=
 match s with
 | .slice (some ⟨c,0,none⟩) _ g=>v=.slice (some ⟨c,off,none⟩) len g
 |s=>v=s∧off=0∧len=0
mutual
inductive RP(m:Mem)(F:Nat→Prop)(T:Nat→Option Tg)(σ:Nat→Value)(nx:Nat):PV→Value→Prop
 |p {x:FV} {v:Value} (h:RF m F x v):RP m F T σ nx (.p x) v
 |agg {cs:List PV} {vs:List Value} (h:Dw m F T σ nx cs vs) (hc:vs.all BQ=true):RP m F T σ nx (.agg cs) (.agg vs.toArray)
 |DK {cs:List PV} {vs:List Value} (h:Dw m F T σ nx cs vs):RP m F T σ nx (.DK cs) (.tuple vs.toArray)
 |vec {b tag off len:Nat} {v:Value} (hb:b<nx) (hc:BQ v=true) (h:∀n,T b=some (.vec n)→tag≤n∧(tag=n→Gi (σ b) off len v)):RP m F T σ nx (.vec b tag off len) v
 |ref {b off:Nat} {v:Value} (hb:b<nx) (hc:BQ v=true) (h:T b=some .box→∃c,σ b=.pointer (some ⟨c,0,none⟩)∧v=.pointer (some ⟨c,off,none⟩)):RP m F T σ nx (.ref b off) v
 |Fb {b tag off:Nat} {v:Value} (hb:b<nx) (hc:BQ v=true) (h:∀n,T b=some (.vec n)→tag≤n∧(tag=n→∃c k g,σ b=.slice (some ⟨c,0,none⟩) k g∧v=.pointer (some ⟨c,off,some g⟩))) :
  RP m F T σ nx (.Fb b tag off) v
 |mref {b:Nat} {v:Value} (hb:b<nx) (hc:BQ v=true) (h:T b=some .map→v=σ b):RP m F T σ nx (.mref b) v
 |clo {f:FuncId} {fs cs:List PV} {vf vc:List Value} (h1:Dw m F T σ nx fs vf) (h2:Dw m F T σ nx cs vc):RP m F T σ nx (.clo f fs cs) (.func (.func f) vf.toArray vc.toArray)
inductive Dw(m:Mem)(F:Nat→Prop)(T:Nat→Option Tg)(σ:Nat→Value)(nx:Nat):List PV→List Value→Prop
 |nil:Dw m F T σ nx [] []
 |cons {c:PV} {v:Value} {cs:List PV} {vs:List Value} (h:RP m F T σ nx c v) (t:Dw m F T σ nx cs vs):Dw m F T σ nx (c::cs) (v::vs)
end
mutual
theorem RF.mono{m m':Mem}{F F':Nat→Prop}(a:∀c,F c→F' c∧m'.get c=m.get c):∀{x:FV} {v:Value},RF m F x v→RF m' F' x v
 |_,_,.int k n=>.int k n
 |_,_,.bool b=>.bool b
 |_,_,.str s=>.str s
 |_,_,.val h=>.val h
 |_,_,.agg h hc=>.agg (Du.mono a h) hc
 |_,_,.nil e=>.nil e
 |_,_,.room e b o g=>.room e b o g
 |_,_,.lst hb hm hw h hc=>.lst (a _ hb).1 ((a _ hb).2.trans hm) hw (Du.mono a h) hc
 |_,_,.FI hb hm hg hw h hc=>.FI (a _ hb).1 ((a _ hb).2.trans hm) hg hw (Du.mono a h) hc
 |_,_,.own hb hm hw h hc=>.own (a _ hb).1 ((a _ hb).2.trans hm) hw (Du.mono a h) hc
 |_,_,.Vg e=>.Vg e
 |_,_,.TD e b o g=>.TD e b o g
theorem Du.mono{m m':Mem}{F F':Nat→Prop}(a:∀c,F c→F' c∧m'.get c=m.get c):∀{x:List FV} {v:List Value},Du m F x v→Du m' F' x v
 |_,_,.nil=>.nil
 |_,_,.cons h t=>.cons (RF.mono a h) (Du.mono a t)
end
def XW:Option Tg→Option Tg→Prop
 |_,none=>True
 |some t,some t'=>t.le t'
 |none,some _=>False
def Names(nx:Nat)(T:Nat→Option Tg)(σ:Nat→Value)(T':Nat→Option Tg)(σ':Nat→Value):Prop :=
 ∀b,b<nx→XW (T b) (T' b)∧(∀t,T b=some t→T' b=some t→σ' b=σ b)
theorem Names.vec(h:Names nx T σ T' σ')(d:b<nx)(c:T' b=some (.vec n)):∃k,T b=some (.vec k)∧k≤n∧(k=n→σ' b=σ b):=by
 obtain⟨a,f⟩:=h b d;rw[c] at a;cases hT:T b with
 |none=>rw[hT] at a;exact a.elim
 |some t =>
  rw[hT] at a;cases t with
  |vec k=>exact⟨k,rfl,a,fun e=>f _ (by grind) c⟩
  |box=>exact a.elim
  |map=>exact a.elim
theorem Names.box(h:Names nx T σ T' σ')(d:b<nx)(c:T' b=some .box):T b=some .box∧σ' b=σ b:=by
 obtain⟨a,e⟩:=h b d;rw[c] at a;cases hT:T b with
 |none=>rw[hT] at a;exact a.elim
 |some t =>
  rw[hT] at a;cases t with
  |box=>grind
  |vec k=>exact a.elim
  |map=>exact a.elim
theorem Names.map(h:Names nx T σ T' σ')(d:b<nx)(c:T' b=some .map):T b=some .map∧σ' b=σ b:=by
 obtain⟨a,e⟩:=h b d;rw[c] at a;cases hT:T b with
 |none=>rw[hT] at a;exact a.elim
 |some t =>
  rw[hT] at a;cases t with
  |map=>grind
  |vec k=>exact a.elim
  |box=>exact a.elim
theorem XW.refl(t:Option Tg):XW t t:=by
 cases t with
 |none=>trivial
 |some t=>cases t<;>simp[XW,Tg.le]
theorem XW.trans(h:XW a b)(k:XW b c):XW a c:=by
 cases c with
 |none=>trivial
 |some c =>
  cases b with
  |none=>exact k.elim
  |some b =>
   cases a with
   |none=>exact h.elim
   |some a =>
    cases a<;>cases b<;>cases c<;>simp_all [XW,Tg.le]
    omega
theorem mu(h:XW a b)(k:XW b c)(e:c=a):b=a:=by
 subst e;cases c with
 |none =>
  cases b with
  |none=>rfl
  |some b=>exact h.elim
 |some c =>
  cases b with
  |none=>exact k.elim
  |some b =>
   cases c<;>cases b<;>simp_all [XW,Tg.le]
   omega
theorem Names.refl(nx:Nat)(T:Nat→Option Tg)(σ:Nat→Value):Names nx T σ T σ:=fun _ _=>⟨XW.refl _,fun _ _ _=>rfl⟩
theorem Names.trans(h:Names nx T σ T' σ')(k:Names nx' T' σ' c a)(f:nx≤nx'):Names nx T σ c a:=fun b d=>by
 obtain⟨e,q⟩:=h b d;obtain⟨k1,p⟩:=k b (ag d f);refine⟨e.trans k1,fun t j g=>?_⟩;have r:=mu e k1 (g.trans j.symm);grind
section
variable {m m':Mem}{F F':Nat→Prop}{T T':Nat→Option Tg}{σ σ':Nat→Value}{nx nx':Nat}
mutual
theorem RP.mono(j:∀c,F c→F' c∧m'.get c=m.get c)(d:Names nx T σ T' σ')(b:nx≤nx'):∀{x:PV} {v:Value},RP m F T σ nx x v→RP m' F' T' σ' nx' x v
 |_,_,.p h=>.p (h.mono j)
 |_,_,.agg h hc=>.agg (Dw.mono j d b h) hc
 |_,_,.DK h=>.DK (Dw.mono j d b h)
 |_,_,.vec hb hc h=>.vec (ag hb b) hc fun n f=>by
  obtain⟨k,a,g,r⟩:=d.vec hb f;obtain⟨s,q⟩:=h k a;exact⟨by omega,fun e=>by rw[r (by omega)];exact q (by omega)⟩
 |_,_,.ref hb hc h=>.ref (ag hb b) hc fun f=>by
  obtain⟨a,g⟩:=d.box hb f;rw[g];exact h a
 |_,_,.Fb hb hc h=>.Fb (ag hb b) hc fun n f=>by
  obtain⟨k,a,g,r⟩:=d.vec hb f;obtain⟨s,q⟩:=h k a;exact⟨by omega,fun e=>by rw[r (by omega)];exact q (by omega)⟩
 |_,_,.mref hb hc h=>.mref (ag hb b) hc fun f=>by
  obtain⟨a,g⟩:=d.map hb f;rw[g];exact h a
 |_,_,.clo a g=>.clo (Dw.mono j d b a) (Dw.mono j d b g)
theorem Dw.mono(d:∀c,F c→F' c∧m'.get c=m.get c)(b:Names nx T σ T' σ')(a:nx≤nx'):∀{x:List PV} {v:List Value},Dw m F T σ nx x v→Dw m' F' T' σ' nx' x v
 |_,_,.nil=>.nil
 |_,_,.cons h t=>.cons (RP.mono d b a h) (Dw.mono d b a t)
end
end
def Dv:Value→Option Nat
 | .pointer (some a)=>some a.block
 | .slice (some ⟨c,_,none⟩) _ _=>some c
 | .map (some r)=>some r
 |_=>none
def pY(m:Mem)(F:Nat→Prop)(es:List (FV×FV))(l:List MapEntry):Prop :=
 Du m F (es.map (·.1)) (l.map (·.key))∧Du m F (es.map (·.2)) (l.map (·.val))
def Stamped(l:List MapEntry)(clock:Nat):Prop:=l.map (·.born)=List.range l.length∧clock=l.length
def RB(m:Mem)(F:Nat→Prop)(T:Nat→Option Tg)(σ:Nat→Value)(nx:Nat)(s:Value):HB→Prop
 | .box e cs=>∃c vs,s=.pointer (some ⟨c,0,none⟩)∧c<m.size∧¬ F c∧m.get c=.cells vs e 0 false∧Dw m F T σ nx cs vs∧vs.all BQ=true
 | .vec e cs n z=>(cs=[]∧n=0∧(s=Dn∧z=true∨∃b o g,s=.slice (some ⟨b,o,some g⟩) 0 0∧z=false)) ∨
  ∃c g vs,s=.slice (some ⟨c,0,none⟩) n g∧c<m.size∧¬ F c∧m.get c=.cells vs e g false∧Du m F cs vs∧vs.all BQ=true∧(n=0→z=false)
 | .map es=>∃r l clock,s=.map (some r)∧r<m.size∧¬ F r∧m.get r=.map l clock∧pY m F es l
 | .Fq e cs n=>∃c g vs,s=.slice (some ⟨c,0,none⟩) n g∧c<m.size∧¬ F c∧m.get c=.cells vs e g false∧Dw m F T σ nx cs vs∧vs.all BQ=true
 | .KF ks cs=>∃r l clock,s=.map (some r)∧r<m.size∧¬ F r∧m.get r=.map l clock∧Du m F ks (l.map (·.key))∧Dw m F T σ nx cs (l.map (·.val))∧Stamped l clock
structure Ctx(Γ:Nat→Option (List Value×TypeId))(m:Mem)(F:Nat→Prop)(σ:Nat→Value)(H:Heap)(nx:Nat):Prop where
 fr:∀c,F c→c<m.size
 hp:∀b x,hget H b=some x→b<nx∧RB m F (htag H) σ nx (σ b) x
 sep:∀b b' x x' c,hget H b=some x→hget H b'=some x'→Dv (σ b)=some c→Dv (σ b')=some c→b=b'
 gl:∀g vs e,Γ g=some (vs,e)→F g∧m.get g=.cells vs e 0 true∧vs.all Am.plainCell=true
def own(H:Heap)(σ:Nat→Value)(c:Nat):Prop:=∃b x,hget H b=some x∧Dv (σ b)=some c
structure Step(m:Mem)(F:Nat→Prop)(σ:Nat→Value)(H:Heap)(nx:Nat)(m':Mem)(F':Nat→Prop)(σ':Nat→Value)(H':Heap)(nx':Nat):Prop where
 size:m.size≤m'.size
 keep:∀c,c<m.size→¬ own H σ c→m'.get c=m.get c
 LK:∀c,F c→F' c
 LD:∀c,c<m.size→F' c→F c∨own H σ c
 J3:∀c,c<m.size→own H' σ' c→own H σ c
 Ym:nx≤nx'
 names:Names nx (htag H) σ (htag H') σ'
 low:∀k,k≤m.low→k≤m.size→(∀c,own H σ c→k≤c)→k≤m'.low
variable {Γ:Nat→Option (List Value×TypeId)}
theorem Ctx.Nr(h:Ctx Γ m F σ H nx)(y:own H σ c):¬ F c∧c<m.size:=by
 obtain⟨b,x,A,d⟩:=y;obtain⟨_,j⟩:=h.hp b x A;cases x with
 |box e q =>
  obtain⟨u,s,a,p,k,_⟩:=j;simp only[Dv,Option.some.injEq] at d;grind
 |vec e q n z =>
  rcases j with⟨_,_,a⟩|⟨u,g,s,a,p,k,_⟩
  ·rcases a with⟨a,_⟩|⟨G,o,g,a,_⟩<;>rw[a] at d<;>simp[Dv,Dn] at d
  ·simp only[Dv,Option.some.injEq] at d
   grind
 |map C =>
  obtain⟨r,l,f,a,p,k,_⟩:=j;simp only[Dv,Option.some.injEq] at d;grind
 |Fq e q n =>
  obtain⟨u,g,s,a,p,k,_⟩:=j;simp only[Dv,Option.some.injEq] at d;grind
 |KF B q =>
  obtain⟨r,l,f,a,p,k,_⟩:=j;simp only[Dv,Option.some.injEq] at d;grind
theorem Step.refl(m:Mem)(F:Nat→Prop)(σ:Nat→Value)(H:Heap)(nx:Nat):Step m F σ H nx m F σ H nx :=
 ⟨ab _,fun _ _ _=>rfl,fun _ h=>h,fun _ _ h=>.inl h,fun _ _ h=>h,ab _,Names.refl _ _ _,fun _ h _ _=>h⟩
theorem Step.trans(h:Step m F σ H nx m' F' σ' H' nx')(k:Step m' F' σ' H' nx' f p b g d) :
 Step m F σ H nx f p b g d where
 size:=an h.size k.size
 keep c a e:=(k.keep c (ag a h.size) fun o=>e (h.J3 c a o)).trans (h.keep c a e)
 LK c a:=k.LK c (h.LK c a)
 LD c a hf:=by
  rcases k.LD c (ag a h.size) hf with h1|h1
  ·exact h.LD c a h1
  ·exact .inr (h.J3 c a h1)
 J3 c a e:=h.J3 c a (k.J3 c (ag a h.size) e)
 Ym:=an h.Ym k.Ym
 names:=h.names.trans k.names h.Ym
 low j h1 h2 h3:=k.low j (h.low j h1 h2 h3) (an h2 h.size) fun c e=>by
  by_cases a:c<m.size
  ·exact h3 c (h.J3 c a e)
  omega
theorem Step.frozen(h:Step m F σ H nx m' F' σ' H' nx')(b:Ctx Γ m F σ H nx):∀c,F c→F' c∧m'.get c=m.get c:=fun c a =>
 ⟨h.LK c a,h.keep c (b.fr c a) fun d=>(b.Nr d).1 a⟩
theorem RP.step(h:Step m F σ H nx m' F' σ' H' nx')(a:Ctx Γ m F σ H nx)(b:RP m F (htag H) σ nx x v) :
 RP m' F' (htag H') σ' nx' x v:=b.mono (h.frozen a) h.names h.Ym
def RL(m:Mem)(F:Nat→Prop)(T:Nat→Option Tg)(σ:Nat→Value)(nx:Nat)(L:Frame)(t:Tr Value):Prop:=∀i v,Gf L i=some v→RP m F T σ nx v (CO t i)
theorem RL.step(h:Step m F σ H nx m' F' σ' H' nx')(a:Ctx Γ m F σ H nx)(b:RL m F (htag H) σ nx L t) :
 RL m' F' (htag H') σ' nx' L t:=fun i v c=>(b i v c).step h a
theorem RL.set(b:RL m F T σ nx L t)(h:RP m F T σ nx x v) :
 RL m F T σ nx ((d,x)::L) (Rq t d v):=fun i y a=>by
 rw[Ew] at a;rw[Dt];by_cases e:d=i
 ·grind
 ·rw[if_neg e] at a ⊢
  exact b i y a
def IJ(L:Frame)(dst:Option Nat)(x:PV):Frame :=
 match dst with
 |some d=>(d,x)::L
 |none=>L
theorem RL.put(a:RL m F T σ nx L t)(h:RP m F T σ nx x v) :
 RL m F T σ nx (IJ L d x) (IE t d v):=by
 cases d with
 |none=>exact a
 |some d=>exact a.set h
def Iw:Value→FV
 | .int k n=>.int k n
 | .bool b=>.bool b
 | .string s=>.str s
 |x=>.val x
theorem a4u(h:Am.plainCell x=true):RF m F (Iw x) x:=by
 unfold Iw;split
 ·exact .int _ _
 ·exact .bool _
 ·exact .str _
 ·exact .val h
theorem Jl:∀{l:List Value},l.all Am.plainCell=true→Du m F (l.map Iw) l
 |[],_=>.nil
 |v::l,h=>by
  simp only[List.all_cons,Bool.and_eq_true] at h;exact .cons (a4u h.1) (Jl h.2)
def aO:Value→Option PV
 | .int k n=>some (.p (.int k n))
 | .bool b=>some (.p (.bool b))
 | .string s=>some (.p (.str s))
 | .agg cs=>if cs.toList.all Am.plainCell then some (.p (.agg (cs.toList.map Iw))) else none
 |x=>if Am.plainCell x then some (.p (.val x)) else none
def AY(Γ:Nat→Option (List Value×TypeId))(L:Frame):Operand→Option PV
 | .tmp i=>Gf L i
 | .const v=>aO v
 | .global g=>(Γ g).map fun x=>.p (.FI (x.1.map Iw))
 | .func f=>some (.clo f [] [])
theorem Zc(h:aO v=some x):RP m F T σ nx x v:=by
 unfold aO at h;split at h
 ·cases h;exact .p (.int _ _)
 ·cases h;exact .p (.bool _)
 ·cases h;exact .p (.str _)
 ·split at h
  ·rename_i b a
   cases h;exact .p (.agg (Jl a) (Dq a))
  grind
 ·split at h
  ·rename_i a
   cases h;exact .p (.val a)
  grind
theorem Du.length:∀{cs:List FV} {vs:List Value},Du m F cs vs→cs.length=vs.length
 |_,_,.nil=>rfl
 |_,_,.cons _ t=>by simp[t.length]
theorem Bz(c:Ctx Γ m F σ H nx)(d:RL m F (htag H) σ nx L t)(h:AY Γ L o=some x) :
 RP m F (htag H) σ nx x (ev t o):=by
 cases o with
 |tmp i=>exact d i x h
 |const v=>exact Zc h
 |global g =>
  simp only[AY,Option.map_eq_some_iff] at h;obtain⟨⟨b,e⟩,q,rfl⟩:=h;obtain⟨k,j,a⟩:=c.gl g b e q;exact .p (.FI k j rfl (by simp[takeN]) (Jl a) (Dq a))
 |func f =>
  cases h;exact .clo .nil .nil
end
section
open Go.Am
structure Env where
 P:Program
 O:BG
 G:List Nat
 Γ:Nat→Option (List Value×TypeId)
structure Base where
 m:Mem
 F:Nat→Prop
 σ:Nat→Value
 H:Heap
 nx:Nat
def Base.to(B:Base)(m:Mem)(F:Nat→Prop)(σ:Nat→Value)(H:Heap)(nx:Nat):Prop:=Step B.m B.F B.σ B.H B.nx m F σ H nx
def Quiet(m m':Mem):Prop:=∀k,k≤m.low→k≤m.size→k≤m'.low
def Aa(E:Env)(w:Bool)(o:Oper)(L:Frame)(H:Heap)(nx:Nat)(Q:PV→Heap→Nat→Prop):Prop :=
 ∀m F σ t,Ctx E.Γ m F σ H nx→RL m F (htag H) σ nx L t →
  GX E.P E.O E.G o ⟨t,m⟩ fun v m'=>∃r H' nx' F' σ',Q r H' nx'∧Ctx E.Γ m' F' σ' H' nx'∧RP m' F' (htag H') σ' nx' r v∧Step m F σ H nx m' F' σ' H' nx'∧(w=false→Quiet m m')
def Ah(E:Env)(bn:Nat)(ops:Array Oper)(l:List Oper)(L:Frame)(H:Heap)(nx:Nat)(Q:Frame→Heap→Nat→Prop):Prop :=
 ∀(B:Base),B.nx=bn→∀m F σ t,Ctx E.Γ m F σ H nx→RL m F (htag H) σ nx L t→B.to m F σ H nx →
  VR E.P E.O E.G ops l ⟨t,m⟩ fun s'=>∃L' H' nx' F' σ',Q L' H' nx'∧Ctx E.Γ s'.m F' σ' H' nx'∧RL s'.m F' (htag H') σ' nx' L' s'.t∧B.to s'.m F' σ' H' nx'
def Ai(E:Env)(bn:Nat)(ops:Array Oper)(i:Nat)(l:List Oper)(L:Frame)(H:Heap)(nx:Nat)(Q:Frame→Heap→Nat→Prop):Prop :=
 ∀(B:Base),B.nx=bn→∀m F σ t,Ctx E.Γ m F σ H nx→RL m F (htag H) σ nx L t→B.to m F σ H nx →
  JG E.P E.O E.G ops i l ⟨t,m⟩ fun s'=>∃L' H' nx' F' σ',Q L' H' nx'∧Ctx E.Γ s'.m F' σ' H' nx'∧RL s'.m F' (htag H') σ' nx' L' s'.t∧B.to s'.m F' σ' H' nx'
def Ad(E:Env)(bn:Nat)(c:Code)(L:Frame)(H:Heap)(nx:Nat)(Q:BP→Frame→Heap→Nat→Prop):Prop :=
 ∀(B:Base),B.nx=bn→∀m F σ t,Ctx E.Γ m F σ H nx→RL m F (htag H) σ nx L t→B.to m F σ H nx →
  Om E.P E.O E.G c ⟨t,m⟩ fun e s'=>∃L' H' nx' F' σ',Q e L' H' nx'∧Ctx E.Γ s'.m F' σ' H' nx'∧RL s'.m F' (htag H') σ' nx' L' s'.t∧B.to s'.m F' σ' H' nx'
def AL(E:Env)(f:FuncId)(args:List PV)(H:Heap)(nx:Nat)(Q:PV→Heap→Nat→Prop):Prop :=
 ∀m F σ Bo,Ctx E.Γ m F σ H nx→Dw m F (htag H) σ nx args Bo →
  Gq E.P E.O E.G f Bo m fun v m'=>∃r H' nx' F' σ',Q r H' nx'∧Ctx E.Γ m' F' σ' H' nx'∧RP m' F' (htag H') σ' nx' r v∧Step m F σ H nx m' F' σ' H' nx'
variable {E:Env}{bn:Nat}{L:Frame}{H:Heap}{nx:Nat}{Q:BP→Frame→Heap→Nat→Prop}
theorem Ad.mono(h:Ad E bn c L H nx R)(b:∀e a H' nx',R e a H' nx'→Q e a H' nx'):Ad E bn c L H nx Q :=
 fun B d m F σ t j g f=>(h B d m F σ t j g f).mono fun _ _ ⟨a,H',nx',F',σ',q,r⟩=>⟨a,H',nx',F',σ',b _ _ _ _ q,r⟩
theorem Ad.seq(h:Ad E bn a L H nx fun e c H' nx'=>match e with| .normal=>Ad E bn b c H' nx' Q| .ret=>Q .ret c H' nx'| .exit i=>Q (.exit i) c H' nx'):Ad E bn (.seq a b) L H nx Q:=by
 intro B d m F σ t j g f;refine Om.seq ((h B d m F σ t j g f).mono ?_);rintro e s ⟨c,H',nx',F',σ',q,r,p,k⟩;cases e with
 |normal=>exact q B d _ _ _ _ r p k
 |ret=>grind
 |exit i=>grind
theorem Ad.skip(h:Q .normal L H nx):Ad E bn .skip L H nx Q:=fun _ _ _ F σ _ c b a=>Om.skip ⟨L,H,nx,F,σ,h,c,b,a⟩
theorem Ad.ret(h:Q .ret L H nx):Ad E bn .ret L H nx Q:=fun _ _ _ F σ _ c b a=>Om.ret ⟨L,H,nx,F,σ,h,c,b,a⟩
theorem Ad.exit(h:Q (.exit i) L H nx):Ad E bn (.exit i) L H nx Q:=fun _ _ _ F σ _ c b a=>Om.exit ⟨L,H,nx,F,σ,h,c,b,a⟩
theorem IU(a:Ctx Γ m F σ H nx)(c:RL m F (htag H) σ nx L t)(h:AY Γ L o=some (.p (.bool b))):ev t o=.bool b:=by
 have:=Bz a c h;generalize hv:ev t o=v at this;rcases this with⟨h⟩
 rename_i h;cases h;rfl
theorem Ad.cond(t:Bool)(q:AY E.Γ L c=some (.p (.bool t)))(j:t=true→Ad E bn a L H nx Q)(k:t=false→Ad E bn b L H nx Q):Ad E bn (.cond c a b) L H nx Q :=
 fun B g m F σ u f d h=>Om.cond t (IU f d q) (fun e=>j e B g m F σ u f d h) (fun e=>k e B g m F σ u f d h)
theorem b8(e:AY E.Γ L c=some (.p (.bool true)))(d:Ad E bn a L H nx Q):Ad E bn (.cond c a b) L H nx Q:=Ad.cond true e (fun _=>d) (fun h=>by cases h)
theorem b5(e:AY E.Γ L c=some (.p (.bool false)))(d:Ad E bn b L H nx Q):Ad E bn (.cond c a b) L H nx Q:=Ad.cond false e (fun h=>by cases h) (fun _=>d)
theorem c8{c:Operand}{a b:Code}{p:Prop}{_:Decidable p}(f:AY E.Γ L c=some (.p (.bool (decide p))))(d:p→Ad E bn a L H nx Q)(e:¬ p→Ad E bn b L H nx Q):Ad E bn (.cond c a b) L H nx Q :=
 Ad.cond (decide p) f (fun h=>d (of_decide_eq_true h)) (fun h=>e (of_decide_eq_false h))
theorem Ad.block{id:Nat}(h:Ad E bn b L H nx fun e a H' nx'=>match e with| .normal=>Q .normal a H' nx'| .ret=>Q .ret a H' nx'| .exit i=>if i=id then Q .normal a H' nx' else Q (.exit i) a H' nx') :
 Ad E bn (.block id b) L H nx Q:=by
 intro B c m F σ t g f d;refine Om.block ((h B c m F σ t g f d).mono ?_);grind
theorem Ad.region{id:Nat}(h:Ah E bn ops ops.toList L H nx (Q .normal)):Ad E bn (.region id ops false) L H nx Q :=
 fun B a m F σ t d c b=>Om.region (h B a m F σ t d c b)
theorem ka{id:Nat}(h:Ai E bn ops 0 ops.toList L H nx (Q .normal)):Ad E bn (.region id ops true) L H nx Q :=
 fun B a m F σ t d c b=>si (h B a m F σ t d c b)
mutual
inductive FLe:FV→FV→Prop
 |refl (x:FV):FLe x x
 |nil (e:TypeId):FLe (.val (.slice none 0 0)) (.lst e [] 0)
 |agg {cs ds:List FV} (h:IK cs ds):FLe (.agg cs) (.agg ds)
 |lst {e:TypeId} {n:Nat} {cs ds:List FV} (h:IK cs ds):FLe (.lst e cs n) (.lst e ds n)
 |FI {cs ds:List FV} (h:IK cs ds):FLe (.FI cs) (.FI ds)
 |own {e:TypeId} {n:Nat} {cs:List FV}:FLe (.own e cs n) (.lst e cs n)
inductive IK:List FV→List FV→Prop
 |refl (l:List FV):IK l l
 |cons {a b:FV} {l l':List FV} (h:FLe a b) (t:IK l l'):IK (a::l) (b::l')
end
mutual
inductive PLe:PV→PV→Prop
 |refl (x:PV):PLe x x
 |p {x y:FV} (h:FLe x y):PLe (.p x) (.p y)
 |agg {cs ds:List PV} (h:OE cs ds):PLe (.agg cs) (.agg ds)
 |DK {cs ds:List PV} (h:OE cs ds):PLe (.DK cs) (.DK ds)
inductive OE:List PV→List PV→Prop
 |refl (l:List PV):OE l l
 |cons {a b:PV} {l l':List PV} (h:PLe a b) (t:OE l l'):OE (a::l) (b::l')
end
theorem PLe.of_eq(h:x=y):PLe x y:=h▸.refl _
theorem OE.of_eq(h:x=y):OE x y:=h▸.refl _
mutual
theorem FLe.length{cs ds:List FV}:IK cs ds→cs.length=ds.length
 | .refl _=>rfl
 | .cons _ t=>by simp[FLe.length t]
end
section
variable {m:Mem}{F:Nat→Prop}
mutual
theorem RF.le:∀{x y:FV},FLe x y→∀{v:Value},RF m F x v→RF m F y v
 |_,_,.refl _,_,h=>h
 |_,_,.nil e,_,h=>by cases h;exact RF.nil e
 |_,_,.agg h,_,r=>by cases r with|agg b a=>exact .agg (Du.le h b) a
 |_,_,.lst h,_,r=>by
  cases r with
  |nil=>cases h with|refl=>exact .nil _
  |room=>cases h with|refl=>exact .room _ _ _ _
  |lst f d c b a=>exact .lst f d (by rw[← FLe.length h];exact c) (Du.le h b) a
 |_,_,.FI h,_,r=>by cases r with|FI f d g c b a=>exact .FI f d g (by rw[← FLe.length h];exact c) (Du.le h b) a
 |_,_,.own,_,r=>by
  cases r with
  |own f d c b a=>exact .lst f d c b a
  |Vg=>exact .nil _
  |TD=>exact .room _ _ _ _
theorem Du.le:∀{x y:List FV},IK x y→∀{v:List Value},Du m F x v→Du m F y v
 |_,_,.refl _,_,h=>h
 |_,_,.cons h t,_,r=>by cases r with|cons b a=>exact .cons (RF.le h b) (Du.le t a)
end
variable {T:Nat→Option Tg}{σ:Nat→Value}{n:Nat}
mutual
theorem RP.le:∀{x y:PV},PLe x y→∀{v:Value},RP m F T σ n x v→RP m F T σ n y v
 |_,_,.refl _,_,h=>h
 |_,_,.p h,_,r=>by cases r with|p a=>exact .p (RF.le h a)
 |_,_,.agg h,_,r=>by cases r with|agg a b=>exact .agg (Dw.le h a) b
 |_,_,.DK h,_,r=>by cases r with|DK a=>exact .DK (Dw.le h a)
theorem Dw.le:∀{x y:List PV},OE x y→∀{v:List Value},Dw m F T σ n x v→Dw m F T σ n y v
 |_,_,.refl _,_,h=>h
 |_,_,.cons h t,_,r=>by cases r with|cons b a=>exact .cons (RP.le h b) (Dw.le t a)
end
end
mutual
def PV.under(k:Nat):PV→Prop
 | .p _=>True
 | .agg cs=>CZ.under k cs
 | .DK cs=>CZ.under k cs
 | .vec b _ _ _=>b<k
 | .ref b _=>b<k
 | .Fb b _ _=>b<k
 | .mref b=>b<k
 | .clo _ fs cs=>CZ.under k fs∧CZ.under k cs
def CZ.under(k:Nat):List PV→Prop
 |[]=>True
 |c::cs=>PV.under k c∧CZ.under k cs
end
theorem eL(k:Nat):∀cs:List FV,CZ.under k (cs.map .p)
 |[]=>trivial
 |_::cs=>⟨trivial,eL k cs⟩
section
variable {m:Mem}{F:Nat→Prop}{T T':Nat→Option Tg}{σ:Nat→Value}{nx nx':Nat}
mutual
theorem RP.low(a:∀b t,T' b=some t→T b=some t):∀{x:PV} {v:Value},x.under nx'→RP m F T σ nx x v→RP m F T' σ nx' x v
 |_,_,_,.p h=>.p h
 |_,_,hb,.agg h hc=>.agg (Dw.low a hb h) hc
 |_,_,hb,.DK h=>.DK (Dw.low a hb h)
 |_,_,hb,.vec _ hc h=>.vec hb hc fun n c=>h n (a _ _ c)
 |_,_,hb,.ref _ hc h=>.ref hb hc fun c=>h (a _ _ c)
 |_,_,hb,.Fb _ hc h=>.Fb hb hc fun n c=>h n (a _ _ c)
 |_,_,hb,.mref _ hc h=>.mref hb hc fun c=>h (a _ _ c)
 |_,_,hb,.clo h1 h2=>.clo (Dw.low a hb.1 h1) (Dw.low a hb.2 h2)
theorem Dw.low(a:∀b t,T' b=some t→T b=some t):∀{x:List PV} {v:List Value},CZ.under nx' x→Dw m F T σ nx x v→Dw m F T' σ nx' x v
 |_,_,_,.nil=>.nil
 |_,_,hb,.cons h t=>.cons (RP.low a hb.1 h) (Dw.low a hb.2 t)
end
end
def GZ(k:Nat):Frame→Frame→Prop
 |[],_=>True
 |(i,v0)::L0,L=>(v0.under k∧∃v,Gf L i=some v∧PLe v v0)∧GZ k L0 L
inductive KX:HB→HB→Prop
 |refl (x:HB):KX x x
 |box {e:TypeId} {cs ds:List PV} (h:OE cs ds):KX (.box e cs) (.box e ds)
 |vec {e:TypeId} {cs ds:List FV} {n k:Nat} {z:Bool} (h:IK cs ds) (hn:n=k):KX (.vec e cs n z) (.vec e ds k z)
theorem KX.of_eq(h:x=y):KX x y:=h▸.refl _
def HB.under(k:Nat):HB→Prop
 | .box _ cs=>CZ.under k cs
 | .Fq _ cs _=>CZ.under k cs
 | .KF _ cs=>CZ.under k cs
 |_=>True
def BN(k:Nat):Heap→Heap→Prop
 |[],_=>True
 |(i,x0)::H0,H=>(i<k∧x0.under k∧∃x,hget H i=some x∧KX x x0)∧BN k H0 H
structure Xz(L:Frame)(H:Heap)(nx:Nat)(L0:Frame)(H0:Heap)(C9:Nat):Prop where
 n:C9≤nx
 l:GZ C9 L0 L
 h:BN C9 H0 H
theorem GZ.get:∀{L0:Frame},GZ k L0 L→∀i v0,Gf L0 i=some v0→v0.under k∧∃v,Gf L i=some v∧PLe v v0
 |[],_,_,_,h=>by cases h
 |(j,w)::L0,⟨h1,h2⟩,i,v0,h=>by
  rw[Ew] at h;by_cases e:j=i
  ·grind
  ·rw[if_neg e] at h;exact GZ.get h2 i v0 h
theorem BN.get:∀{H0:Heap},BN k H0 H→∀i v0,hget H0 i=some v0→i<k∧v0.under k∧∃v,hget H i=some v∧KX v v0
 |[],_,_,_,h=>by cases h
 |(j,w)::L0,⟨h1,h2⟩,i,v0,h=>by
  rw[BA] at h;by_cases e:j=i
  ·grind
  ·rw[if_neg e] at h;exact BN.get h2 i v0 h
theorem KX.tag(h:KX x y):x.tag=y.tag:=by
 cases h with
 |refl=>rfl
 |box=>rfl
 |vec _ a=>simp[HB.tag,a]
theorem BN.tag(h:BN k H0 H)(b:Nat)(t:Tg)(e:htag H0 b=some t):htag H b=some t:=by
 unfold htag at e ⊢;cases h0:hget H0 b with
 |none=>grind
 |some c =>
  obtain⟨_,_,x,d,a⟩:=h.get b c h0;rw[d,Option.map_some,a.tag];grind
theorem Xz.own(h:Xz L H nx L0 H0 C9)(d:Vm.own H0 σ c):Vm.own H σ c:=by
 obtain⟨b,x,f,e⟩:=d;obtain⟨_,_,y,a,_⟩:=h.h.get b x f;exact⟨b,y,a,e⟩
theorem Xz.ctx(h:Xz L H nx L0 H0 C9)(C:Ctx Γ m F σ H nx):Ctx Γ m F σ H0 C9 where
 fr:=C.fr
 hp b x0 hb:=by
  obtain⟨M,B,x,K,J⟩:=h.h.get b x0 hb;refine⟨M,?_⟩;obtain⟨_,u⟩:=C.hp b x K;have G:=fun b t=>BN.tag h.h b t
  cases J with
  |refl =>
   cases x0 with
   |box e N=>obtain⟨c,s,f,d,a,p,k,j⟩:=u;exact⟨c,s,f,d,a,p,Dw.low G B k,j⟩
   |vec e N n z=>exact u
   |map W=>exact u
   |Fq e N n=>obtain⟨c,g,s,f,d,a,p,k,j⟩:=u;exact⟨c,g,s,f,d,a,p,Dw.low G B k,j⟩
   |KF V N=>obtain⟨r,l,A,f,d,a,p,k,j,P⟩:=u;exact⟨r,l,A,f,d,a,p,k,Dw.low G B j,P⟩
  |box q=>obtain⟨c,s,f,d,a,p,k,j⟩:=u;exact⟨c,s,f,d,a,p,Dw.low G B (Dw.le q k),j⟩
  |vec q U =>
   subst U;rcases u with⟨f,d,a⟩|⟨c,g,s,f,d,a,p,k,j⟩
   ·subst f
    cases q with|refl=>exact .inl ⟨rfl,d,a⟩
   ·exact .inr ⟨c,g,s,f,d,a,p,Du.le q k,j⟩
 sep b b' x x' c M B K J:=by
  obtain⟨_,_,y,S,_⟩:=h.h.get b x M;obtain⟨_,_,O,I,_⟩:=h.h.get b' x' B;exact C.sep b b' y O c S I K J
 gl:=C.gl
theorem Xz.rl(h:Xz L H nx L0 H0 C9)(a:RL m F (htag H) σ nx L t):RL m F (htag H0) σ C9 L0 t:=fun i v c=>by
 obtain⟨f,w,e,d⟩:=h.l.get i v c;exact RP.low (fun b t=>BN.tag h.h b t) f (RP.le d (a i w e))
theorem Xz.step{B:Base}(h:Xz L H nx L0 H0 C9)(d:B.nx≤C9)(a:B.to m F σ H nx):B.to m F σ H0 C9 where
 size:=a.size
 keep:=a.keep
 LK:=a.LK
 LD:=a.LD
 J3 c hc ho:=a.J3 c hc (h.own ho)
 Ym:=d
 names b d:=by
  obtain⟨g,f⟩:=a.names b d;cases h0:htag H0 b with
  |none=>exact⟨trivial,fun _ _ e=>by cases e⟩
  |some t =>
   have:=BN.tag h.h b t h0;grind
 low:=a.low
end
section
open Go.Am
variable {E:Env}{bn:Nat}{L:Frame}{H:Heap}{nx:Nat}{Q:BP→Frame→Heap→Nat→Prop}
theorem nz(g:bn≤C9)(a:Xz L H nx L0 H0 C9)(h:Ad E bn c L0 H0 C9 Q):Ad E bn c L H nx Q :=
 fun B b m F σ t f e d=>h B b m F σ t (a.ctx f) (a.rl e) (a.step (by omega) d)
theorem Ad.loop{α:Type}(g:α→Frame)(d:α→Heap)(C9:Nat)(c:α→Prop)(μ:α→Nat)(f:α)(V:bn≤C9)(I:c f)(p:Xz L H nx (g f) (d f) C9)
 (x:∀a,c a→Ad E bn b (g a) (d a) C9 fun e h H' nx'=>match e with| .normal=>∃a',c a'∧μ a'<μ a∧Xz h H' nx' (g a') (d a') C9| .ret=>Q .ret h H' nx'| .exit i=>Q (.exit i) h H' nx') :
 Ad E bn (.loop b) L H nx Q:=by
 intro B z m F σ t G C A;refine Om.loop (fun n s=>∃a F σ,c a∧μ a=n∧Ctx E.Γ s.m F σ (d a) C9∧RL s.m F (htag (d a)) σ C9 (g a) s.t∧B.to s.m F σ (d a) C9) (μ f) ⟨f,F,σ,I,rfl,p.ctx G,p.rl C,p.step (by omega) A⟩ ?_;rintro n s ⟨a,S,j,y,rfl,P,O,N⟩;refine(x a y B z s.m S j s.t P O N).mono ?_;rintro e U ⟨h,H',nx',F',σ',q,M,K,J⟩;cases e with
 |normal =>
  obtain⟨a',u,r,k⟩:=q;exact⟨_,r,a',F',σ',u,rfl,k.ctx M,k.rl K,k.step (by omega) J⟩
 |ret=>grind
 |exit i=>grind
section
variable {ops:Array Oper}{o:Oper}{l:List Oper}{i:Nat}{R:Frame→Heap→Nat→Prop}
theorem Ah.nil(h:R L H nx):Ah E bn ops [] L H nx R:=fun _ _ _ F σ _ c b a=>VR.nil ⟨L,H,nx,F,σ,h,c,b,a⟩
theorem Ai.nil(h:R L H nx):Ai E bn ops i [] L H nx R:=fun _ _ _ F σ _ c b a=>JG.nil ⟨L,H,nx,F,σ,h,c,b,a⟩
def JA(ops:Array Oper)(L:Frame)(o:Oper)(w:Bool):Prop :=
 match o.guard with
 |none=>w=true
 |some (j,want)=>∃b d,(ops[j]?).bind (·.dst)=some d∧Gf L d=some (.p (.bool b))∧w=(b==want)
theorem JA.wanted(c:Ctx Γ m F σ H nx)(e:RL m F (htag H) σ nx L t)(h:JA ops L o w):Region.wanted o (EM ops t)=w:=by
 unfold JA at h;unfold Region.wanted;split at h
 ·grind
 ·rename_i j a f
  obtain⟨b,d,q,p,k⟩:=h;have g:CO t d=.bool b:=IU (o:=.tmp d) c e p;rw[f];simp only[EM,q,g,k];cases b<;>cases a<;>rfl
theorem Ah.cons(d:JA ops L o true)(h:Aa E true o L H nx fun r H' nx'=>Ah E bn ops l (IJ L o.dst r) H' nx' R):Ah E bn ops (o::l) L H nx R:=by
 intro B e m F σ t b a f;refine VR.cons (d.wanted b a) ((h m F σ t b a).mono ?_);rintro v m' ⟨r,H',nx',F',σ',q,j,g,c,_⟩;exact q B e m' F' σ' _ j ((a.step c b).put g) (f.trans c)
theorem Ah.skip(c:JA ops L o false)(h:Ah E bn ops l (IJ L o.dst (.DK [])) H nx R):Ah E bn ops (o::l) L H nx R:=by
 intro B d m F σ t b a e;refine VR.skip (c.wanted b a) (h B d m F σ _ b (a.put ?_) e);exact .DK .nil
theorem YN(m:Mem)(k:Nat)(F:Nat→Prop):∀c,F c→F c∧(m.at k).get c=m.get c :=by simp
theorem RL.at{Γ:Nat→Option (List Value×TypeId)}(k:Nat)(h:RL m F T σ nx L t):RL (m.at k) F T σ nx L t :=
 fun i v a=>(h i v a).mono (YN m k F) (Names.refl _ _ _) (ab _)
theorem Ctx.at(k:Nat)(h:Ctx Γ m F σ H nx):Ctx Γ (m.at k) F σ H nx where
 fr:=h.fr
 hp b x hb:=by
  obtain⟨C,u⟩:=h.hp b x hb;refine⟨C,?_⟩;cases x with
  |box e A=>obtain⟨c,y,s,q,p,j,f,d⟩:=u;exact⟨c,y,s,q,p,j,f.mono (YN m k F) (Names.refl _ _ _) (ab _),d⟩
  |vec e A n z =>
   rcases u with u|⟨c,g,y,s,q,p,j,f,d⟩
   ·exact .inl u
   ·exact .inr ⟨c,g,y,s,q,p,j,f.mono (YN m k F),d⟩
  |map I=>obtain⟨r,l,a,s,q,p,j,f,d⟩:=u;exact⟨r,l,a,s,q,p,j,f.mono (YN m k F),d.mono (YN m k F)⟩
  |Fq e A n=>obtain⟨c,g,y,s,q,p,j,f,d⟩:=u;exact⟨c,g,y,s,q,p,j,f.mono (YN m k F) (Names.refl _ _ _) (ab _),d⟩
  |KF G A=>obtain⟨r,l,a,s,q,p,j,f,d,B⟩:=u;exact⟨r,l,a,s,q,p,j,f.mono (YN m k F),d.mono (YN m k F) (Names.refl _ _ _) (ab _),B⟩
 sep:=h.sep
 gl:=h.gl
theorem Step.at(h:Step (m.at m.size) F σ H nx m' F' σ' H' nx'):Step m F σ H nx (m'.at (min m.low m'.low)) F' σ' H' nx' where
 size:=h.size
 keep:=h.keep
 LK:=h.LK
 LD:=h.LD
 J3:=h.J3
 Ym:=h.Ym
 names:=h.names
 low k h1 h2 h3:=by
  have:=h.low k h2 h2 h3;simp only[Mem.b3h];omega
theorem mw(m:Mem)(k:Nat)(F:Nat→Prop)(σ:Nat→Value)(H:Heap)(nx:Nat)(a:min m.low m.size≤k):Step m F σ H nx (m.at k) F σ H nx where
 size:=ab _
 keep _ _ _:=rfl
 LK _ h:=h
 LD _ _ h:=.inl h
 J3 _ _ h:=h
 Ym:=ab _
 names:=Names.refl _ _ _
 low j h1 h2 _:=by simp only[Mem.b3h];omega
theorem Ai.cons(d:JA ops L o true)(p:barrier E.P ops i=w)(h:Aa E w o L H nx fun r H' nx'=>Ai E bn ops (i+1) l (IJ L o.dst r) H' nx' R):Ai E bn ops i (o::l) L H nx R:=by
 intro B e m F σ t b a f;refine JG.cons (d.wanted b a) ((h (m.at m.size) F σ t (b.at _) (RL.at (Γ:=E.Γ) _ a)).mono ?_);rintro v m' ⟨r,H',nx',F',σ',q,k,j,c,g⟩;refine⟨?_,?_⟩
 ·cases w with
  |true=>grind
  |false=>exact .inr (.inl (g rfl m.size (ab _) (ab _)))
 ·refine q B e _ F' σ' _ (k.at _) (RL.at (Γ:=E.Γ) _ (((RL.at (Γ:=E.Γ) _ a).step c (b.at _)).put j)) (f.trans c.at)
theorem Ai.skip(c:JA ops L o false)(h:Ai E bn ops (i+1) l (IJ L o.dst (.DK [])) H nx R):Ai E bn ops i (o::l) L H nx R:=by
 intro B d m F σ t b a e;refine JG.skip (c.wanted b a) (h B d _ F σ _ (b.at _) (RL.at (Γ:=E.Γ) _ (a.put (.DK .nil))) (e.trans (mw _ _ _ _ _ _ (ab _))))
theorem oy{j d:Nat}{a:Bool}{p:Prop}{_:Decidable p}(z:o.guard=some (j,a))(G:(ops[j]?).bind (·.dst)=some d)(q:Gf L d=some (.p (.bool (decide p))))
 (y:p→Ah E bn ops (o::l) ((d,.p (.bool true))::L) H nx R) (A:¬ p→Ah E bn ops (o::l) ((d,.p (.bool false))::L) H nx R):Ah E bn ops (o::l) L H nx R:=by
 have g:∀b,decide p=b→Ah E bn ops (o::l) ((d,.p (.bool b))::L) H nx R→Ah E bn ops (o::l) L H nx R:=by
  intro b C h B r m F σ t u f s;refine h B r m F σ t u (fun k x c=>?_) s;rw[Ew] at c;by_cases e:d=k
  ·rw[if_pos e] at c
   cases c;have:=f d _ q;grind
  ·rw[if_neg e] at c;exact f k x c
 by_cases h:p
 ·grind
 grind
theorem ov{j d:Nat}{a:Bool}{p:Prop}{_:Decidable p}(z:o.guard=some (j,a))(G:(ops[j]?).bind (·.dst)=some d)(q:Gf L d=some (.p (.bool (decide p))))
 (y:p→Ai E bn ops i (o::l) ((d,.p (.bool true))::L) H nx R) (A:¬ p→Ai E bn ops i (o::l) ((d,.p (.bool false))::L) H nx R):Ai E bn ops i (o::l) L H nx R:=by
 have g:∀b,decide p=b→Ai E bn ops i (o::l) ((d,.p (.bool b))::L) H nx R→Ai E bn ops i (o::l) L H nx R:=by
  intro b C h B r m F σ t u f s;refine h B r m F σ t u (fun k x c=>?_) s;rw[Ew] at c;by_cases e:d=k
  ·rw[if_pos e] at c
   cases c;have:=f d _ q;grind
  ·rw[if_neg e] at c;exact f k x c
 by_cases h:p
 ·grind
 grind
end
def jr{α:Type}:Nat→List α→Option (List α)
 |0,_=>some []
 |_+1,[]=>none
 |n+1,a::l=>(jr n l).map (a::·)
def b6e:List PV→Option (List FV)
 |[]=>some []
 | .p x::l=>(b6e l).map (x::·)
 |_::_=>none
def yQ(l:List PV):PV:=match b6e l with
 |some fs=>.p (.agg fs)
 |none=>.agg l
def kS(P:Program)(t:TypeId)(cs:List FV):Option FV :=
 match G9 P t with
 |some false=>cs.head?
 |some true=>match P.info? t with
  |some i=>(jr i.size cs).map .agg
  |none=>none
 |none=>none
def yT(P:Program)(t:TypeId)(cs:List PV):Option PV :=
 match G9 P t with
 |some false=>cs.head?
 |some true=>match P.info? t with
  |some i=>(jr i.size cs).map yQ
  |none=>none
 |none=>none
def lM(P:Program)(t:TypeId)(H:Heap):PV→Option PV
 | .p (.FI cs)=>(kS P t cs).map .p
 | .ref b off=>match hget H b with
  |some (.box _ cs)=>yT P t (cs.drop off)
  |_=>none
 | .Fb b tag off=>match hget H b with
  |some (.vec _ cs n _)=>match Nat.decEq tag n with
   | .isTrue _=>(kS P t (cs.drop off)).map .p
   | .isFalse _=>none
  |_=>none
 |_=>none
theorem Y6:∀{n:Nat} {cs:List FV} {ws:List Value} {l:List FV},Du m F cs ws→jr n cs=some l→∃w,takeN n ws=some w∧Du m F l w
 |0,_,_,_,_,h=>by cases h;exact⟨[],by rfl,.nil⟩
 |n+1,[],_,_,_,h=>by cases h
 |n+1,c::cs,_,l,.cons h t,hl=>by
  simp only[jr,Option.map_eq_some_iff] at hl;obtain⟨e,d,rfl⟩:=hl;obtain⟨w,b,a⟩:=Y6 t d;refine⟨_::w,?_,.cons h a⟩;unfold takeN at b ⊢;grind
section
variable {m:Mem}{F:Nat→Prop}{T:Nat→Option Tg}{σ:Nat→Value}{n':Nat}
theorem VL:∀{n:Nat} {cs:List PV} {ws:List Value} {l:List PV},Dw m F T σ n' cs ws→jr n cs=some l→∃w,takeN n ws=some w∧Dw m F T σ n' l w
 |0,_,_,_,_,h=>by cases h;exact⟨[],by rfl,.nil⟩
 |n+1,[],_,_,_,h=>by cases h
 |n+1,c::cs,_,l,.cons h t,hl=>by
  simp only[jr,Option.map_eq_some_iff] at hl;obtain⟨e,d,rfl⟩:=hl;obtain⟨w,b,a⟩:=VL t d;refine⟨_::w,?_,.cons h a⟩;unfold takeN at b ⊢;grind
theorem Du.drop:∀{cs:List FV} {vs:List Value} (k:Nat),Du m F cs vs→Du m F (cs.drop k) (vs.drop k)
 |_,_,0,h=>h
 |_,_,_+1,.nil=>.nil
 |_,_,k+1,.cons _ t=>Du.drop k t
theorem Dw.drop:∀{cs:List PV} {vs:List Value} (k:Nat),Dw m F T σ n' cs vs→Dw m F T σ n' (cs.drop k) (vs.drop k)
 |_,_,0,h=>h
 |_,_,_+1,.nil=>.nil
 |_,_,k+1,.cons _ t=>Dw.drop k t
theorem jq:∀{l:List PV} {fs:List FV} {vs:List Value},b6e l=some fs→Dw m F T σ n' l vs→Du m F fs vs
 |[],_,_,h,.nil=>by cases h;exact .nil
 | .p x::l,_,_,h,.cons a t=>by
  simp only[b6e,Option.map_eq_some_iff] at h;obtain⟨fs,b,rfl⟩:=h;cases a with
  |p a=>exact .cons a (jq b t)
 | .agg _::_,_,_,h,_=>by cases h
 | .DK _::_,_,_,h,_=>by cases h
 | .vec ..::_,_,_,h,_=>by cases h
 | .ref ..::_,_,_,h,_=>by cases h
 | .Fb ..::_,_,_,h,_=>by cases h
 | .mref ..::_,_,_,h,_=>by cases h
 | .clo ..::_,_,_,h,_=>by cases h
theorem XZ(h:Dw m F T σ n' l vs)(a:vs.all BQ=true):RP m F T σ n' (yQ l) (.agg vs.toArray):=by
 unfold yQ;split
 ·rename_i c b
  exact .p (.agg (jq b h) a)
 ·exact .agg h a
end
theorem F9(h:takeN k l=some w):w=l.take k∧k≤l.length:=by
 unfold takeN at h;grind
theorem OL{l:List Value}(h:l.all BQ=true)(k:Nat):(l.take k).all BQ=true :=by grind
theorem JQ{l:List Value}(h:l.all BQ=true)(k:Nat):(l.drop k).all BQ=true :=by grind
end
section
open Go.Am
variable {E:Env}{bn:Nat}{L:Frame}{H:Heap}{nx:Nat}
theorem uS(h:takeN k l=some ws)(a:takeN j ws=some w):takeN j l=some w:=by
 obtain⟨rfl,b⟩:=F9 h;obtain⟨rfl,c⟩:=F9 a;unfold takeN;grind
theorem b3t(h:Du m F cs ws)(a:cs.head?=some x):∃v,takeN 1 ws=some [v]∧RF m F x v:=by
 cases h with
 |nil=>grind
 |cons h t=>cases a;exact⟨_,by rfl,h⟩
section
variable {m:Mem}{F:Nat→Prop}{T:Nat→Option Tg}{σ:Nat→Value}{n':Nat}
theorem a8h(h:Dw m F T σ n' cs ws)(a:cs.head?=some x):∃v,takeN 1 ws=some [v]∧RP m F T σ n' x v:=by
 cases h with
 |nil=>grind
 |cons h t=>cases a;exact⟨_,by rfl,h⟩
end
theorem oK(q:m.get a.block=.cells vs e g ro)(r:a.block<m.size)(s:MK a=g)
 (k:takeN cs.length (vs.drop a.off)=some ws) (h:Du m F cs ws) (y:ws.all BQ=true) (c:kS P t cs=some x):∃v,OO P t a m=some v∧RF m F x v:=by
 unfold kS at c;unfold OO;unfold fV;have j:∀n w,takeN n ws=some w→m.Es a n=some w:=by
  intro n w p;unfold Mem.Es;rw[q];simp only[s,if_true];exact uS k p
 cases hag:G9 P t with
 |none=>grind
 |some b =>
  rw[hag] at c;cases b with
  |false =>
   obtain⟨v,f,d⟩:=b3t h c;grind
  |true =>
   cases hi:P.info? t with
   |none=>grind
   |some i =>
    rw[hi] at c;simp only[Option.map_eq_some_iff] at c;obtain⟨l,f,rfl⟩:=c;obtain⟨w,d,u⟩:=Y6 h f;refine⟨.agg w.toArray,by grind,.agg u ?_⟩;rw[(F9 d).1];grind
theorem lY(s:m.get a.block=.cells vs e g ro)(k:a.block<m.size)(u:MK a=g)
 (q:vs.drop a.off=ws) (h:Dw m F T σ n' cs ws) (y:ws.all BQ=true) (c:yT P t cs=some x):∃v,OO P t a m=some v∧RP m F T σ n' x v:=by
 unfold yT at c;unfold OO;unfold fV;have j:∀n w,takeN n ws=some w→m.Es a n=some w:=by
  intro n w r;unfold Mem.Es;grind
 cases hag:G9 P t with
 |none=>grind
 |some b =>
  rw[hag] at c;cases b with
  |false =>
   obtain⟨v,f,d⟩:=a8h h c;grind
  |true =>
   cases hi:P.info? t with
   |none=>grind
   |some i =>
    rw[hi] at c;simp only[Option.map_eq_some_iff] at c;obtain⟨l,f,rfl⟩:=c;obtain⟨w,d,p⟩:=VL h f;refine⟨.agg w.toArray,by grind,XZ p ?_⟩;rw[(F9 d).1];grind
theorem lJ{a x:PV}(J:Ctx Γ m F σ H nx)(N:RP m F (htag H) σ nx a v)(f:lM P t H a=some x) :
 ∃p u,v=.pointer (some p)∧OO P t p m=some u∧RP m F (htag H) σ nx x u:=by
 unfold lM at f;split at f
 ·simp only[Option.map_eq_some_iff] at f
  obtain⟨y,j,rfl⟩:=f;cases N with
  |p h =>
   cases h with
   |FI Z X Y V h K =>
    obtain⟨u,C,B⟩:=oK (a:=⟨_,_,_⟩) X (J.fr _ Z) Y V h K j;exact⟨_,u,rfl,C,.p B⟩
 ·rename_i b d
  cases hb:hget H b with
  |none=>grind
  |some y =>
   rw[hb] at f;cases y with
   |box e cs =>
    obtain⟨_,c,O,A,s,q,I,r,G⟩:=J.hp b _ hb;cases N with
    |ref M K h =>
     obtain⟨c',j,C⟩:=h (by simp[htag,hb,HB.tag]);rw[A] at j;cases j;obtain⟨u,B,S⟩:=lY (a:=⟨c,d,none⟩) I s rfl rfl (Dw.drop d r) (JQ G _) f;grind
   |vec e cs n z=>grind
   |map es=>grind
   |Fq e cs n=>grind
   |KF U cs=>grind
 ·rename_i b tag d
  cases hb:hget H b with
  |none=>grind
  |some y =>
   rw[hb] at f;cases y with
   |vec e cs n z =>
    simp only at f;split at f
    ·rename_i W _
     subst W;simp only[Option.map_eq_some_iff] at f;obtain⟨y,f,rfl⟩:=f;cases N with
     |Fb M K h =>
      obtain⟨_,h0⟩:=h tag (by simp[htag,hb,HB.tag]);obtain⟨c,k,g,j,C⟩:=h0 rfl;rcases(J.hp b _ hb).2 with⟨A,s,q⟩|⟨c',g',O,A,s,q,I,r,G,r7⟩
      ·rcases q with⟨q,_⟩|⟨_,_,_,q,_⟩<;>rw[q] at j<;>cases j
      ·rw[A] at j
       cases j;subst C;obtain⟨u,B,S⟩:=oK (a:=⟨c,d,some g⟩) (cs:=cs.drop d) (ws:=O.drop d) I s rfl (by simp only[takeN,List.length_drop,r.length];grind) (Du.drop d r) (JQ G _) f;exact⟨_,u,rfl,B,.p S⟩
    grind
   |box e cs=>grind
   |map es=>grind
   |Fq e cs n=>grind
   |KF U cs=>grind
 grind
def CS:Nat→List PV→Frame
 |_,[]=>[]
 |i,a::l=>(i,a)::CS (i+1) l
theorem Jz:∀(l:List PV) (k i:Nat) (v:PV),Gf (CS k l) i=some v→k≤i∧l[i-k]?=some v
 |[],_,_,_,h=>by cases h
 |a::l,k,i,v,h=>by
  simp only[CS,Ew] at h;by_cases e:k=i
  ·grind
  ·rw[if_neg e] at h
   obtain⟨c,b⟩:=Jz l (k+1) i v h;grind
theorem Dw.get:∀{cs:List PV} {vs:List Value} {i:Nat} {c:PV},Dw m F T σ n' cs vs→cs[i]?=some c→∃v,vs[i]?=some v∧RP m F T σ n' c v
 |_,_,i,_,.nil,h=>by grind
 |_,_,0,_,.cons h _,hc=>by grind
 |_,_,i+1,c,.cons (cs:=cs) _ t,hc=>by
  have a:cs[i]?=some c:=by grind
  obtain⟨v,d,b⟩:=Dw.get t a;grind
theorem Dw.length:∀{cs:List PV} {vs:List Value},Dw m F T σ n' cs vs→cs.length=vs.length
 |_,_,.nil=>rfl
 |_,_,.cons _ t=>by simp[t.length]
def SY(P:Program)(L:Frame)(H:Heap):ResultVar→Option PV
 | .tmp t=>Gf L t
 | .cell a t=>match Gf L a with
  |some p=>lM P t H p
  |none=>none
def zn{α β:Type}(f:α→Option β):List α→Option (List β)
 |[]=>some []
 |a::l=>match f a with
  |some b=>match zn f l with
   |some r=>some (b::r)
   |none=>none
  |none=>none
def EJ(P:Program)(rs:List ResultVar)(L:Frame)(H:Heap):Option PV :=
 match zn (SY P L H) rs with
 |some [v]=>some v
 |some vs=>some (.DK vs)
 |none=>none
theorem zC(c:Ctx Γ m F σ H nx)(b:RL m F (htag H) σ nx L t)(h:SY P L H r=some x) :
 ∃v,KU P ⟨t,m⟩ r=some v∧RP m F (htag H) σ nx x v:=by
 cases r with
 |tmp i=>exact⟨_,rfl,b i x h⟩
 |cell a ty =>
  simp only[SY] at h;cases ha:Gf L a with
  |none=>grind
  |some p =>
   rw[ha] at h;obtain⟨q,u,f,e,d⟩:=lJ c (b a p ha) h;refine⟨u,?_,d⟩;simp only[KU,f,e]
theorem Yu(a:Ctx Γ m F σ H nx)(b:RL m F (htag H) σ nx L t):∀{rs:List ResultVar} {xs:List PV},zn (SY P L H) rs=some xs →
 ∃vs,P6 (KU P ⟨t,m⟩) rs=some vs∧Dw m F (htag H) σ nx xs vs
 |[],_,h=>by cases h;exact⟨[],rfl,.nil⟩
 |r::rs,xs,h=>by
  simp only[zn] at h;cases h1:SY P L H r with
  |none=>grind
  |some x =>
   rw[h1] at h;cases h2:zn (SY P L H) rs with
   |none=>grind
   |some g =>
    rw[h2] at h;cases h;obtain⟨v,f,e⟩:=zC a b h1;obtain⟨vs,d,c⟩:=Yu a b h2;exact⟨v::vs,by simp only[P6,f,d],.cons e c⟩
theorem LZ(f:Ctx Γ m F σ H nx)(g:RL m F (htag H) σ nx L t)(h:EJ P fn.results.toList L H=some x) :
 ∃v,FM P fn ⟨t,m⟩=some v∧RP m F (htag H) σ nx x v:=by
 unfold EJ at h;split at h
 ·rename_i r c
  cases h;obtain⟨e,d,a⟩:=Yu f g c;cases a with
  |cons k b =>
   cases b;exact⟨_,by simp only[FM,d],k⟩
 ·rename_i _ p q c
  cases h;obtain⟨e,d,a⟩:=Yu f g c;refine⟨.tuple e.toArray,?_,.DK a⟩;simp only[FM,d];split
  ·rename_i j
   simp only[Option.some.injEq] at j;subst j;cases a with
   |cons k b=>cases b;grind
  ·grind
  grind
 grind
def Ret(bn:Nat)(Q:PV→Heap→Nat→Prop)(r0:PV)(H:Heap)(nx:Nat):Prop :=
 ∃r H0 C9,PLe r0 r∧r.under C9∧BN C9 H0 H∧C9≤nx∧bn≤C9∧Q r H0 C9
def Done(P:Program)(rs:List ResultVar)(bn:Nat)(Q:PV→Heap→Nat→Prop)(e:BP)(L:Frame)(H:Heap)(nx:Nat):Prop :=
 match e with
 | .exit _=>False
 | .normal=>∃r,EJ P rs L H=some r∧Ret bn Q r H nx
 | .ret=>∃r,EJ P rs L H=some r∧Ret bn Q r H nx
theorem AL.enter(V:E.O f=none)(X:E.P.funcs[f]?=some fn)(Y:fn.body=some c)(j:IV E.G fn c=true)(hn:args.length≤fn.ntmps)
 (h:Ad E nx c (CS 0 args) H nx (Done E.P fn.results.toList nx Q)):AL E f args H nx Q:=by
 intro m F σ Bo Z y;refine Gq.enter V X Y j (by rw[← y.length];omega) ((h ⟨m,F,σ,H,nx⟩ rfl m F σ _ Z ?_ (Step.refl _ _ _ _ _)).mono ?_)
 ·intro i v W
  obtain⟨_,k⟩:=Jz args 0 i v W;obtain⟨u,x,h5⟩:=y.get k;have:=Hq Bo 0 .leaf i;grind
 ·rintro e s ⟨A,d,nx',F',σ',q,z,c2,c3⟩
  have g:(∃r,EJ E.P fn.results.toList A d=some r∧Ret nx Q r d nx')→∃v,FM E.P fn s=some v∧∃r d nx' F' σ',Q r d nx'∧Ctx E.Γ s.m F' σ' d nx'∧RP s.m F' (htag d) σ' nx' r v∧Step m F σ H nx s.m F' σ' d nx':=by
   rintro⟨r0,U,r,C,I,S,N,p,M,K,J⟩;obtain⟨v,k,x⟩:=LZ z c2 U;have a:Xz A d nx' [] C I:=⟨M,trivial,p⟩
   exact⟨v,k,r,C,I,F',σ',J,a.ctx z,RP.low (fun b t=>BN.tag p b t) N (RP.le S x),a.step (B:=⟨m,F,σ,H,nx⟩) K c3⟩
  cases e with
  |exit i=>exact q.elim
  |normal=>exact g q
  |ret=>exact g q
end
section
open Go.Am
variable {E:Env}{L:Frame}{H:Heap}{nx:Nat}{Q:PV→Heap→Nat→Prop}{w:Bool}
theorem Aa.quiet(q:Q r H nx)(h:∀m F σ t,Ctx E.Γ m F σ H nx→RL m F (htag H) σ nx L t→∃v,(∀call,BX E.P call (ev t) o m=some (v,m))∧RP m F (htag H) σ nx r v):Aa E w o L H nx Q :=
 fun m F σ t a e=>by
  obtain⟨v,d,c⟩:=h m F σ t a e;exact GX.op d ⟨r,H,nx,F,σ,q,a,c,Step.refl _ _ _ _ _,fun _ k b _=>b⟩
section
variable {m:Mem}{F:Nat→Prop}{T:Nat→Option Tg}{σ:Nat→Value}{n:Nat}
theorem RF.cell(h:RF m F x v):(∃cs,x=.agg cs)∨BQ v=true:=by
 cases h with
 |agg h a=>simp
 |val h=>exact .inr (by have:=Dq (l:=[_]) (by simpa using h);grind)
 |_=>exact .inr rfl
def Jv:PV→List PV
 | .p (.agg cs)=>cs.map .p
 | .agg cs=>cs
 |x=>[x]
def UW:PV→Prop
 | .DK _=>False
 |_=>True
theorem ma:∀{cs:List FV} {vs:List Value},Du m F cs vs→Dw m F T σ n (cs.map .p) vs
 |_,_,.nil=>.nil
 |_,_,.cons h t=>.cons (.p h) (ma t)
theorem k7:∀{cs:List FV} {vs:List Value},Dw m F T σ n (cs.map .p) vs→Du m F cs vs
 |[],_,.nil=>.nil
 |_::_,_,.cons (.p h) t=>.cons h (k7 t)
theorem cells_one(h:BQ v=true):v.cells=#[v]:=by
 cases v<;>first|rfl|cases h
theorem MQ(g:UW x)(h:RP m F T σ n x v):Dw m F T σ n (Jv x) v.cells.toList∧v.cells.toList.all BQ=true:=by
 cases h with
 |DK h=>exact g.elim
 |agg h hc=>exact⟨h,hc⟩
 |p h =>
  rcases h.cell with⟨k,rfl⟩|hc
  ·cases h with|agg h hc=>exact⟨ma h,hc⟩
  ·rw[cells_one hc]
   refine⟨?_,by grind⟩;cases h<;>first|exact .cons (.p (by assumption)) .nil|skip
   ·exact .cons (.p (.int _ _)) .nil
   ·exact .cons (.p (.bool _)) .nil
   ·exact .cons (.p (.str _)) .nil
   ·rename_i h;exact .cons (.p (.val h)) .nil
   ·cases hc
   ·exact .cons (.p (.nil _)) .nil
   ·exact .cons (.p (.room _ _ _ _)) .nil
   ·rename_i c b f e d;exact .cons (.p (.lst c b f e d)) .nil
   ·rename_i c b f e d j;exact .cons (.p (.FI c b f e d j)) .nil
   ·rename_i c b f e d;exact .cons (.p (.own c b f e d)) .nil
   ·exact .cons (.p (.Vg _)) .nil
   ·exact .cons (.p (.TD _ _ _ _)) .nil
 |vec a hc h=>rw[cells_one hc];exact⟨.cons (.vec a hc h) .nil,by grind⟩
 |ref a hc h=>rw[cells_one hc];exact⟨.cons (.ref a hc h) .nil,by grind⟩
 |Fb a hc h=>rw[cells_one hc];exact⟨.cons (.Fb a hc h) .nil,by grind⟩
 |mref a hc h=>rw[cells_one hc];exact⟨.cons (.mref a hc h) .nil,by grind⟩
 |clo c b=>exact⟨.cons (.clo c b) .nil,rfl⟩
end
theorem J8(b:Nat)(x:HB)(H:Heap)(c:Nat):htag ((b,x)::H) c=if b=c then some x.tag else htag H c:=by
 unfold htag;rw[BA];split<;>rfl
theorem SX(H:Heap)(b c:Nat)(y:HB):htag (hput H b y) c=if b=c then(htag H b).map (fun _=>y.tag) else htag H c:=by
 unfold htag;rw[FN];split
 ·cases hget H b<;>rfl
 ·rfl
theorem Ctx.a6c(h:Ctx Γ m F σ H nx)(a:nx≤b):hget H b=none:=by
 cases hh:hget H b with
 |none=>rfl
 |some x=>have:=(h.hp b x hh).1;omega
def upd(σ:Nat→Value)(b:Nat)(v:Value):Nat→Value:=fun c=>if c=b then v else σ c
theorem upd_same(σ:Nat→Value)(b:Nat)(v:Value):upd σ b v b=v:=if_pos rfl
theorem Df(σ:Nat→Value)(v:Value)(h:c≠b):upd σ b v c=σ c:=if_neg h
theorem RB.mono(u:∀c,F c→F' c∧m'.get c=m.get c)(I:Names n T σ T' σ')(G:n≤n')
 (N:m.size≤m'.size) (A:∀c,Dv s=some c→m'.get c=m.get c∧¬ F' c) (h:RB m F T σ n s x):RB m' F' T' σ' n' s x:=by
 cases x with
 |box e J =>
  obtain⟨c,y,b,C,B,j,f,d⟩:=h;obtain⟨q,p⟩:=A c (by rw[b];rfl);exact⟨c,y,b,by omega,p,q.trans j,f.mono u I G,d⟩
 |vec e J k z =>
  rcases h with h|⟨c,g,y,b,C,B,j,f,d⟩
  ·exact .inl h
  ·obtain⟨q,p⟩:=A c (by rw[b];rfl)
   exact .inr ⟨c,g,y,b,by omega,p,q.trans j,f.mono u,d⟩
 |map O =>
  obtain⟨r,l,a,b,C,B,j,f,d⟩:=h;obtain⟨q,p⟩:=A r (by rw[b];rfl);exact⟨r,l,a,b,by omega,p,q.trans j,f.mono u,d.mono u⟩
 |Fq e J k =>
  obtain⟨c,g,y,b,C,B,j,f,d⟩:=h;obtain⟨q,p⟩:=A c (by rw[b];rfl);exact⟨c,g,y,b,by omega,p,q.trans j,f.mono u I G,d⟩
 |KF M J =>
  obtain⟨r,l,a,b,C,B,j,f,d,K⟩:=h;obtain⟨q,p⟩:=A r (by rw[b];rfl);exact⟨r,l,a,b,by omega,p,q.trans j,f.mono u,d.mono u I G,K⟩
theorem kR{Γ:Nat→Option (List Value×TypeId)}{m:Mem}{F:Nat→Prop}(x:HB)(s:Value):Names nx (htag H) σ (htag ((nx,x)::H)) (upd σ nx s):=fun b a=>by
 rw[J8,if_neg (by omega),Df _ _ (by omega)];exact⟨XW.refl _,fun _ _ _=>rfl⟩
theorem Ctx.new{Γ:Nat→Option (List Value×TypeId)}{m m':Mem}{F:Nat→Prop}{σ:Nat→Value}(h:Ctx Γ m F σ H nx)(q:m.size≤m'.size)(a:∀c,c<m.size→m'.get c=m.get c)(I:min m.low m.size≤m'.low)
 (N:∀c,Dv s=some c→m.size≤c) (O:RB m' F (htag ((nx,x)::H)) (upd σ nx s) (nx+1) s x) :
 Ctx Γ m' F (upd σ nx s) ((nx,x)::H) (nx+1)∧Step m F σ H nx m' F (upd σ nx s) ((nx,x)::H) (nx+1)∧Quiet m m':=by
 have B:∀c,F c→F c∧m'.get c=m.get c:=fun c f=>⟨f,a c (h.fr c f)⟩
 have J:=kR (Γ:=Γ) (m:=m) (F:=F) (σ:=σ) (H:=H) (nx:=nx) x s;refine⟨⟨fun c f=>ag (h.fr c f) q,?_,?_,?_⟩,⟨q,fun c f _=>a c f,fun _ h=>h,fun _ _ h=>.inl h,?_,cT _,J,?_⟩,?_⟩
 ·intro b y d
  rw[BA] at d;by_cases e:nx=b
  ·rw[if_pos e] at d;cases d;subst e
   rw[upd_same];grind
  ·rw[if_neg e] at d
   obtain⟨p,j⟩:=h.hp b y d;rw[Df _ _ (Ne.symm e)];refine⟨by omega,j.mono B J (cT _) q fun c f=>?_⟩;have:=h.Nr ⟨b,y,d,f⟩;grind
 ·intro b C y G c p j u z
  rw[BA] at p j;by_cases e:nx=b<;>by_cases A:nx=C
  ·omega
  ·subst e
   rw[if_neg A] at j;rw[upd_same] at u;rw[Df _ _ (Ne.symm A)] at z;have:=(h.Nr ⟨C,G,j,z⟩).2;grind
  ·subst A
   rw[if_neg e] at p;rw[upd_same] at z;rw[Df _ _ (Ne.symm e)] at u;have:=(h.Nr ⟨b,y,p,u⟩).2;grind
  ·rw[if_neg e] at p
   rw[if_neg A] at j;rw[Df _ _ (Ne.symm e)] at u;rw[Df _ _ (Ne.symm A)] at z;exact h.sep b C y G c p j u z
 ·intro g K e M
  obtain⟨p,j,u⟩:=h.gl g K e M;grind
 ·rintro c f ⟨b,y,d,r⟩
  rw[BA] at d;by_cases e:nx=b
  ·subst e
   rw[upd_same] at r;grind
  ·rw[if_neg e] at d
   rw[Df _ _ (Ne.symm e)] at r;exact⟨b,y,d,r⟩
 ·omega
 ·intro k p j;omega
theorem EU(a:hget H b0=some x0)(d:XW (some x0.tag) (some x'.tag))(f:x0.tag=x'.tag→s'=σ b0) :
 Names nx (htag H) σ (htag (hput H b0 x')) (upd σ b0 s'):=fun b _=>by
 rw[SX];by_cases e:b0=b
 ·subst e
  have c:htag H b0=some x0.tag:=by simp[htag,a]
  rw[if_pos rfl,c,upd_same];grind
 ·rw[if_neg e,Df _ _ (Ne.symm e)]
  exact⟨XW.refl _,fun _ _ _=>rfl⟩
theorem Ctx.change(h:Ctx Γ m F σ H nx)(A:hget H b0=some x0)(P:XW (some x0.tag) (some x'.tag))(S:x0.tag=x'.tag→s'=σ b0)
 (x:m.size≤m'.size) (a:∀c,c<m.size→Dv (σ b0)≠some c→m'.get c=m.get c) (M:∀k,k≤m.low→k≤m.size→(∀c,Dv (σ b0)=some c→k≤c)→k≤m'.low)
 (q:∀c,Dv s'=some c→Dv (σ b0)=some c∨m.size≤c) (U:RB m' F (htag (hput H b0 x')) (upd σ b0 s') nx s' x') :
 Ctx Γ m' F (upd σ b0 s') (hput H b0 x') nx∧Step m F σ H nx m' F (upd σ b0 s') (hput H b0 x') nx:=by
 have p:∀c,Dv (σ b0)=some c→own H σ c:=fun c f=>⟨b0,x0,A,f⟩
 have K:∀c,F c→F c∧m'.get c=m.get c:=fun c f=>⟨f,a c (h.fr c f) fun e=>(h.Nr (p c e)).1 f⟩
 have N:Names nx (htag H) σ (htag (hput H b0 x')) (upd σ b0 s'):=EU A P S;have J:hget (hput H b0 x') b0=some x':=by rw[FN,if_pos rfl,A];rfl
 have d:∀b,b≠b0→hget (hput H b0 x') b=hget H b:=fun b e=>by rw[FN,if_neg (Ne.symm e)]
 refine⟨⟨fun c f=>ag (h.fr c f) x,?_,?_,?_⟩,⟨x,fun c f V=>a c f fun e=>V (p c e),fun _ h=>h,fun _ _ h=>.inl h,?_,ab _,N,?_⟩⟩
 ·intro b y j
  by_cases e:b=b0
  ·subst e
   rw[J] at j;cases j;rw[upd_same];exact⟨(h.hp b x0 A).1,U⟩
  ·rw[d b e] at j
   obtain⟨u,s⟩:=h.hp b y j;rw[Df _ _ e];refine⟨u,s.mono K N (ab _) x fun c f=>?_⟩;have:=h.Nr ⟨b,y,j,f⟩;exact⟨a c this.2 fun C=>e (h.sep b b0 y x0 c j A f C),this.1⟩
 ·intro b G y I c u s r B
  by_cases e:b=b0<;>by_cases C:G=b0
  ·omega
  ·subst e
   rw[d G C] at s;rw[upd_same] at r;rw[Df _ _ C] at B;rcases q c r with h5|h5
   ·exact h.sep b G x0 I c A s h5 B
   ·have:=(h.Nr ⟨G,I,s,B⟩).2;omega
  ·subst C
   rw[d b e] at u;rw[upd_same] at B;rw[Df _ _ e] at r;rcases q c B with h5|h5
   ·exact h.sep b G y x0 c u A r h5
   ·have:=(h.Nr ⟨b,y,u,r⟩).2;omega
  ·rw[d b e] at u
   rw[d G C] at s;rw[Df _ _ e] at r;rw[Df _ _ C] at B;exact h.sep b G y I c u s r B
 ·intro g O e W
  obtain⟨u,s,r⟩:=h.gl g O e W;grind
 ·rintro c f ⟨b,y,j,z⟩
  by_cases e:b=b0
  ·subst e
   rw[upd_same] at z;grind
  ·rw[d b e] at j
   rw[Df _ _ e] at z;exact⟨b,y,j,z⟩
 grind
def CG{α:Type}(cs:List α):Nat→List α→List α
 |_,[]=>cs
 |o,v::l=>CG (cs.set o v) (o+1) l
section
variable {m:Mem}{F:Nat→Prop}{T:Nat→Option Tg}{σ:Nat→Value}{n:Nat}
theorem Dw.set:∀{cs:List PV} {vs:List Value} (i:Nat) {x:PV} {v:Value},Dw m F T σ n cs vs→RP m F T σ n x v→Dw m F T σ n (cs.set i x) (vs.set i v)
 |_,_,_,_,_,.nil,_=>.nil
 |_,_,0,_,_,.cons _ t,h=>.cons h t
 |_,_,i+1,_,_,.cons h t,h'=>.cons h (Dw.set i t h')
theorem Du.set:∀{cs:List FV} {vs:List Value} (i:Nat) {x:FV} {v:Value},Du m F cs vs→RF m F x v→Du m F (cs.set i x) (vs.set i v)
 |_,_,_,_,_,.nil,_=>.nil
 |_,_,0,_,_,.cons _ t,h=>.cons h t
 |_,_,i+1,_,_,.cons h t,h'=>.cons h (Du.set i t h')
theorem kw:∀{l:List PV} {ws:List Value} {cs:List PV} {vs:List Value} (o:Nat),Dw m F T σ n cs vs→Dw m F T σ n l ws→Dw m F T σ n (CG cs o l) (splice vs o ws)
 |_,_,_,_,_,h,.nil=>h
 |_,_,_,_,o,h,.cons h1 t=>kw (o+1) (h.set o h1) t
theorem lm:∀{l:List FV} {ws:List Value} {cs:List FV} {vs:List Value} (o:Nat),Du m F cs vs→Du m F l ws→Du m F (CG cs o l) (splice vs o ws)
 |_,_,_,_,_,h,.nil=>h
 |_,_,_,_,o,h,.cons h1 t=>lm (o+1) (h.set o h1) t
theorem Du.append:∀{cs ds:List FV} {vs ws:List Value},Du m F cs vs→Du m F ds ws→Du m F (cs++ds) (vs++ws)
 |_,_,_,_,.nil,h=>h
 |_,_,_,_,.cons h t,h'=>.cons h (Du.append t h')
end
theorem c4q{l:List Value}(h:l.all BQ=true)(a:BQ v=true)(i:Nat):(l.set i v).all BQ=true :=by grind
theorem Ky:∀{ws l:List Value} (o:Nat),l.all BQ=true→ws.all BQ=true→(splice l o ws).all BQ=true
 |[],_,_,h,_=>h
 |v::ws,l,o,h,hw=>by
  simp only[List.all_cons,Bool.and_eq_true] at hw;exact Ky (o+1) (c4q h hw.1 o) hw.2
end
section
open Go.Am
variable {E:Env}{L:Frame}{H:Heap}{nx:Nat}{Q:PV→Heap→Nat→Prop}{w:Bool}
variable {dst:Option Tmp}{ty:TypeId}{pos:String}{af:Array Edge}{gd:Option (Nat×Bool)}
theorem Aa.move(h:AY E.Γ L x=some r)(q:Q r H nx):Aa E w ⟨dst,.move x,ty,pos,af,gd⟩ L H nx Q :=
 Aa.quiet q fun _ _ _ _ b a=>⟨_,fun _=>rfl,Bz b a h⟩
theorem Aa.assign(h:AY E.Γ L x=some r)(q:Q r H nx):Aa E w ⟨dst,.assign x,ty,pos,af,gd⟩ L H nx Q :=
 Aa.quiet q fun _ _ _ _ b a=>⟨_,fun _=>rfl,Bz b a h⟩
theorem lk(f:AY E.Γ L c=some (.p (.bool true)))(h:AY E.Γ L a=some r)(q:Q r H nx):Aa E w ⟨dst,.pick c a b,ty,pos,af,gd⟩ L H nx Q :=
 Aa.quiet q fun m _ _ t e d=>⟨ev t a,fun _=>by simp only[BX,F5,IU e d f,if_true],Bz e d h⟩
theorem lv(f:AY E.Γ L c=some (.p (.bool false)))(h:AY E.Γ L b=some r)(q:Q r H nx):Aa E w ⟨dst,.pick c a b,ty,pos,af,gd⟩ L H nx Q :=
 Aa.quiet q fun m _ _ t e d=>⟨ev t b,fun _=>by simp only[BX,F5,IU e d f,Bool.false_eq_true,if_false],Bz e d h⟩
theorem CV(a:Ctx Γ m F σ H nx)(b:RL m F (htag H) σ nx L t)(h:AY Γ L o=some (.p (.int k n))):ev t o=.int k n:=by
 have:=Bz a b h;generalize ev t o=v at this;cases this with|p h=>cases h;rfl
theorem NQ(a:Ctx Γ m F σ H nx)(b:RL m F (htag H) σ nx L t)(h:AY Γ L o=some (.p (.str s))):ev t o=.string s:=by
 have:=Bz a b h;generalize ev t o=v at this;cases this with|p h=>cases h;rfl
def Lc(op:BinOp)(k:IntKind)(x y:Int):Option FV :=
 match op with
 | .add=>some (.int k (k.wrap (x+y)))
 | .sub=>some (.int k (k.wrap (x-y)))
 | .mul=>some (.int k (k.wrap (x*y)))
 | .eql=>some (.bool (decide (x=y)))
 | .neq=>some (.bool (decide (x≠y)))
 | .lss=>some (.bool (decide (x<y)))
 | .leq=>some (.bool (decide (x≤y)))
 | .gtr=>some (.bool (decide (x>y)))
 | .geq=>some (.bool (decide (x≥y)))
 | .quo=>if y=0 then none else some (.int k (k.wrap (x.tdiv y)))
 | .rem=>if y=0 then none else some (.int k (x.tmod y))
 | .and=>some (.int k (k.wrap (BitVec.ofInt k.bits x &&& BitVec.ofInt k.bits y).toNat))
 | .or=>some (.int k (k.wrap (BitVec.ofInt k.bits x ||| BitVec.ofInt k.bits y).toNat))
 | .xor=>some (.int k (k.wrap (BitVec.ofInt k.bits x ^^^ BitVec.ofInt k.bits y).toNat))
 | .andNot=>some (.int k (k.wrap (BitVec.ofInt k.bits x &&& ~~~ BitVec.ofInt k.bits y).toNat))
 |_=>none
theorem b6j(h:Lc op k x y=some r):∃v,b6c op k x y=some v∧RF m F r v∧op≠.shl∧op≠.shr:=by
 have c:(x==y)=decide (x=y):=eE.2 (by simp);have b:(x != y)=decide (x≠y):=eE.2 (by simp);cases op<;>simp only[Lc,b6c,c,b] at h ⊢<;>first
  |(cases h;done)
  |(cases h;exact⟨_,rfl,.int _ _,by simp,by simp⟩)
  |(cases h;exact⟨_,rfl,.bool _,by simp,by simp⟩)
  |(split at h
    ·cases h
    ·rename_i a;cases h;exact⟨_,by rw[if_neg a],.int _ _,by simp,by simp⟩)
theorem Aa.int(j:AY E.Γ L x=some (.p (.int k a)))(g:AY E.Γ L y=some (.p (.int k b)))(h:Lc op k a b=some r)(q:Q (.p r) H nx) :
 Aa E w ⟨dst,.binOp op t x y f,ty,pos,af,gd⟩ L H nx Q :=
 Aa.quiet q fun m F σ B d c=>by
  obtain⟨v,A,z,u,s⟩:=b6j (m:=m) (F:=F) h;refine⟨v,fun _=>?_,.p z⟩;have e:QT E.P op t x y (.int k a) (.int k b)=some v:=by
   rw[← A];cases op<;>first|exact absurd rfl u|exact absurd rfl s|simp only[QT,if_true]
  simp only[BX,F5,CV d c j,CV d c g,e,Option.map_some]
theorem a7{op:BinOp}{t f:TypeId}{x y:Operand}{a b:Int}(q:Q (.p r) H nx)(j:AY E.Γ L x=some (.p (.int k a)):=by rfl)(g:AY E.Γ L y=some (.p (.int k b)):=by rfl)(h:Lc op k a b=some r:=by rfl):Aa E w ⟨dst,.binOp op t x y f,ty,pos,af,gd⟩ L H nx Q:=Aa.int j g h q
theorem wrap_i64(h:-9223372036854775808≤n∧n<9223372036854775808):IntKind.i64.wrap n=n:=by
 have e:IntKind.i64.wrap n=(n+2^63)%2^64-2^63:=by
  simp[IntKind.wrap,IntKind.signed,IntKind.bits];omega
 omega
theorem jl(e:AY E.Γ L x=some (.p (.int .i64 a)))(d:AY E.Γ L y=some (.p (.int .i64 b)))(h:-9223372036854775808≤a+b∧a+b<9223372036854775808)(q:Q (.p (.int .i64 (a+b))) H nx) :
 Aa E w ⟨dst,.binOp .add t x y c,ty,pos,af,gd⟩ L H nx Q:=Aa.int e d (r:=.int .i64 (a+b)) (by simp only[Lc,wrap_i64 h]) q
theorem lh(e:AY E.Γ L x=some (.p (.int .i64 a)))(d:AY E.Γ L y=some (.p (.int .i64 b)))(h:-9223372036854775808≤a-b∧a-b<9223372036854775808)(q:Q (.p (.int .i64 (a-b))) H nx) :
 Aa E w ⟨dst,.binOp .sub t x y c,ty,pos,af,gd⟩ L H nx Q:=Aa.int e d (r:=.int .i64 (a-b)) (by simp only[Lc,wrap_i64 h]) q
theorem mK(e:AY E.Γ L x=some (.p (.int .i64 a)))(d:AY E.Γ L y=some (.p (.int .i64 b)))(h:-9223372036854775808≤a*b∧a*b<9223372036854775808)(q:Q (.p (.int .i64 (a*b))) H nx) :
 Aa E w ⟨dst,.binOp .mul t x y c,ty,pos,af,gd⟩ L H nx Q:=Aa.int e d (r:=.int .i64 (a*b)) (by simp only[Lc,wrap_i64 h]) q
theorem Aa.shift(f:op=.shl∨op=.shr)(h:AY E.Γ L x=some (.p (.int k a)))(g:AY E.Γ L y=some (.p (.int k' b)))(z:0≤b)
 (j:r=if op=.shl then .int k (k.wrap (a*2^(min b.toNat k.bits))) else .int k (a.fdiv (2^(min b.toNat k.bits)))) (q:Q (.p r) H nx) :
 Aa E w ⟨dst,.binOp op t x y s,ty,pos,af,gd⟩ L H nx Q :=
 Aa.quiet q fun m F σ u e d=>by
  have c:¬ b<0:=by omega
  rcases f with rfl|rfl
  ·refine⟨.int k (k.wrap (a*2^(min b.toNat k.bits))),fun _=>?_,by rw[j];exact .p (.int _ _)⟩
   simp only[BX,F5,CV e d h,CV e d g,QT,jk,if_neg c,Option.map_some]
  ·refine⟨.int k (a.fdiv (2^(min b.toNat k.bits))),fun _=>?_,by rw[j];exact .p (.int _ _)⟩
   simp only[BX,F5,CV e d h,CV e d g,QT,jk,if_neg c,Option.map_some]
theorem Aa.shl(e:AY E.Γ L x=some (.p (.int k a)))(d:AY E.Γ L y=some (.p (.int k' b)))(f:0≤b)(q:Q (.p (.int k (k.wrap (a*2^(min b.toNat k.bits))))) H nx) :
 Aa E w ⟨dst,.binOp .shl t x y c,ty,pos,af,gd⟩ L H nx Q:=Aa.shift (.inl rfl) e d f rfl q
theorem Aa.shr(e:AY E.Γ L x=some (.p (.int k a)))(d:AY E.Γ L y=some (.p (.int k' b)))(f:0≤b)(q:Q (.p (.int k (a.fdiv (2^(min b.toNat k.bits))))) H nx) :
 Aa E w ⟨dst,.binOp .shr t x y c,ty,pos,af,gd⟩ L H nx Q:=Aa.shift (.inr rfl) e d f rfl q
theorem LQ(h:DL P s=some v)(a:plain v=true):ZU P s=some v:=by
 simp only[ZU,h,a,if_true]
def zi:TypeDesc→Bool
 | .slice _=>false
 |_=>true
theorem nk(g:AY E.Γ L x=some (.p (.int k' n)))(e:E.P.underlying s=some a)(c:zi a=true)(f:E.P.underlying d=some (.int k))(q:Q (.p (.int k (k.wrap n))) H nx) :
 Aa E w ⟨dst,.convert s d x,ty,pos,af,gd⟩ L H nx Q :=
 Aa.quiet q fun m F σ r j h=>by
  refine⟨.int k (k.wrap n),fun _=>?_,.p (.int _ _)⟩;have:DL E.P (convert s d (.int k' n))=some (.int k (k.wrap n)):=by
   unfold convert;simp only[Aw,Bd,e,f,Option.bind_some];cases a<;>rfl
  have b:(JZ E.P s||JZ E.P d)=false:=by
   simp only[JZ,e,f];cases a<;>first|rfl|cases c
  simp only[BX,F5,CV j h g,LQ this rfl,Option.map_some,b];rfl
theorem Aa.extract(h:AY E.Γ L t=some (.DK vs))(c:vs[i]?=some r)(q:Q r H nx):Aa E w ⟨dst,.extract t i,ty,pos,af,gd⟩ L H nx Q :=
 Aa.quiet q fun m F σ b g f=>by
  have:=Bz g f h;generalize hv:ev b t=v at this;cases this with
  |DK a =>
   obtain⟨u,e,d⟩:=a.get c;refine⟨u,fun _=>?_,d⟩;simp only[BX,F5,hv,Instr.extract,List.getElem?_toArray,e];rfl
def VY(P:Program)(s:TypeId)(f:Nat):Option Nat :=
 match P.underlying s with
 |some (.struct fs)=>match fs[f]? with
  |some fd=>match P.info? fd.type with
   |some i=>if i.size=0 then none else some fd.offset
   |none=>none
  |none=>none
 |_=>none
theorem UC(h:VY P s f=some k)(b:ρ x=.pointer (some a)) :
 F5 P ρ ⟨dst,.fieldAddr s x f,ty,pos,af,gd⟩ m=some (.pointer (some { a with off:=a.off+k }),m):=by
 unfold VY at h;simp only[F5,b];grind
theorem Qq(h:takeN n l=some ws):takeN (n-k) (l.drop k)=some (ws.drop k):=by
 obtain⟨rfl,a⟩:=F9 h;unfold takeN;rw[bA,if_pos (by omega),List.drop_take]
theorem RF.b0u(k:Nat)(h:RF m F (.FI cs) (.pointer (some a))):RF m F (.FI (cs.drop k)) (.pointer (some { a with off:=a.off+k })):=by
 cases h with
 |FI f c d b h e =>
  refine .FI f c d (ws:=_) ?_ (Du.drop k h) (JQ e k);have:=Qq (k:=k) b;simp_all
theorem bK(b:Ctx Γ m F σ H nx)(c:RL m F (htag H) σ nx L t)(h:AY Γ L o=some (.p (.FI cs))) :
 ∃a,ev t o=.pointer (some a)∧RF m F (.FI cs) (.pointer (some a)):=by
 have:=Bz b c h;generalize ev t o=v at this;cases this with
 |p h =>
  cases h with
  |FI k j g f e d=>exact⟨_,rfl,.FI k j g f e d⟩
theorem aS(a:Ctx Γ m F σ H nx)(d:RL m F (htag H) σ nx L t)(h:AY Γ L o=some (.ref b off))(f:hget H b=some (.box e cs)) :
 ∃c,ev t o=.pointer (some ⟨c,off,none⟩)∧σ b=.pointer (some ⟨c,0,none⟩):=by
 have:=Bz a d h;cases this with
 |ref q p g =>
  obtain⟨c,k,j⟩:=g (by simp[htag,f,HB.tag]);grind
theorem uF(a:Ctx Γ m F σ H nx)(d:RL m F (htag H) σ nx L t)(h:AY Γ L o=some (.Fb b tag off))(f:hget H b=some (.vec e cs tag z)) :
 ∃c k g,ev t o=.pointer (some ⟨c,off,some g⟩)∧σ b=.slice (some ⟨c,0,none⟩) k g:=by
 have:=Bz a d h;cases this with
 |Fb r q j =>
  obtain⟨_,p⟩:=j tag (by simp[htag,f,HB.tag]);grind
theorem nh(b:AY E.Γ L x=some (.p (.FI cs)))(c:VY E.P s f=some k)(q:Q (.p (.FI (cs.drop k))) H nx):Aa E w ⟨dst,.fieldAddr s x f,ty,pos,af,gd⟩ L H nx Q :=
 Aa.quiet q fun m F σ j h g=>by
  obtain⟨a,e,d⟩:=bK h g b;exact⟨_,fun _=>UC (dst:=dst) (ty:=ty) (pos:=pos) (af:=af) (gd:=gd) c e,.p (d.b0u k)⟩
theorem e8(g:AY E.Γ L x=some (.ref b off))(a:hget H b=some (.box e cs))(h:VY E.P s f=some k)(q:Q (.ref b (off+k)) H nx):Aa E w ⟨dst,.fieldAddr s x f,ty,pos,af,gd⟩ L H nx Q :=
 Aa.quiet q fun m F σ u d r=>by
  obtain⟨c,p,j⟩:=aS d r g a;exact⟨_,fun _=>UC (dst:=dst) (ty:=ty) (pos:=pos) (af:=af) (gd:=gd) h p,.ref (d.hp b _ a).1 rfl fun _=>⟨c,j,rfl⟩⟩
theorem Aa.load(c:AY E.Γ L a=some x)(h:lM E.P t H x=some r)(q:Q r H nx):Aa E w ⟨dst,.load t a,ty,pos,af,gd⟩ L H nx Q :=
 Aa.quiet q fun m F σ j b g=>by
  obtain⟨p,u,f,e,d⟩:=lJ b (Bz b g c) h;exact⟨u,fun _=>by simp only[BX,F5,f,e,Option.map_some],d⟩
theorem rb(d:AY E.Γ L a=some (.Fb b tag off))(c:hget H b=some (.vec e cs tag z))(h:kS E.P t (cs.drop off)=some r)(q:Q (.p r) H nx) :
 Aa E w ⟨dst,.load t a,ty,pos,af,gd⟩ L H nx Q:=by
 refine Aa.load d ?_ q;simp only[lM,c];split
 ·grind
 omega
def elemSize(P:Program)(t:TypeId):Option Nat :=
 match P.underlying t with
 |some (.slice e)=>(P.info? e).map (·.size)
 |_=>none
theorem KO(h:elemSize P t=some sz):∃e i,P.underlying t=some (.slice e)∧P.info? e=some i∧i.size=sz:=by
 unfold elemSize at h;split at h
 ·simp_all
 grind
theorem mh{k:IntKind}(s:AY E.Γ L x=some (.p (.lst e cs n)))(A:AY E.Γ L d=some (.p (.int k i)))(y:elemSize E.P t=some sz)(M:0≤i)(K:i<n)
 (q:Q (.p (.FI (cs.drop (i.toNat*sz)))) H nx):Aa E w ⟨dst,.indexAddr t x d,ty,pos,af,gd⟩ L H nx Q :=
 Aa.quiet q fun m F σ j h f=>by
  obtain⟨S,r,J,I,G⟩:=KO y;have c:=CV h f A;have:=Bz h f s;generalize hv:ev j x=v at this;cases this with
  |p a =>
   cases a with
   |nil=>omega
   |room=>omega
   |lst C z u a B =>
    rename_i b o g O N ro;refine⟨.pointer (some ⟨b,o+i.toNat*sz,some g⟩),fun _=>by simp only[BX,F5,J,hv,c,I,M,K,and_self,if_true,G],.p ?_⟩;refine .FI C z rfl ?_ (Du.drop _ a) (JQ B _);have:=Qq (k:=i.toNat*sz) u;simp_all
theorem IY(a:Ctx Γ m F σ H nx)(c:RL m F (htag H) σ nx L t)(h:AY Γ L o=some (.vec b tag off len))(d:hget H b=some (.vec e cs tag z)) :
 Gi (σ b) off len (ev t o):=by
 have:=Bz a c h;cases this with
 |vec j g f=>exact(f tag (by simp[htag,d,HB.tag])).2 rfl
theorem ph(C:AY E.Γ L x=some (.vec b tag off len))(j:hget H b=some (.vec e cs tag z))(K:AY E.Γ L u=some (.p (.int k i)))
 (G:elemSize E.P t=some sz) (U:0≤i) (S:i<len) (q:Q (.Fb b tag (off+i.toNat*sz)) H nx):Aa E w ⟨dst,.indexAddr t x u,ty,pos,af,gd⟩ L H nx Q :=
 Aa.quiet q fun m F σ W r y=>by
  obtain⟨e',B,O,N,M⟩:=KO G;have h:=CV r y K;have a:=IY r y C j;obtain⟨f,I⟩:=r.hp b _ j;rcases I with⟨s,A,d⟩|⟨c,g,V,s,A,d,r4,Z,Y,X⟩
  ·rcases d with⟨d,_⟩|⟨b',o',g',d,_⟩<;>rw[d] at a<;>simp only[Gi,Dn] at a<;>omega
  ·rw[s] at a
   simp only[Gi] at a;refine⟨.pointer (some ⟨c,off+i.toNat*sz,some g⟩),fun _=>by simp only[BX,F5,O,a,h,N,U,S,and_self,if_true,M],.Fb f rfl fun n J=>?_⟩;simp only[htag,j,HB.tag,Option.map_some,Option.some.injEq,Tg.vec.injEq] at J;grind
theorem kb(c:AY E.Γ L x=some (.p (.lst e cs n)))(d:E.P.underlying t=some (.slice e'))(q:Q (.p (.int .i64 n)) H nx) :
 Aa E w ⟨dst,.call { callee:=.builtin .len,args:=#[x],argTypes:=#[t] },ty,pos,af,gd⟩ L H nx Q :=
 Aa.quiet q fun m F σ b k j=>by
  have:=Bz k j c;generalize hv:ev b x=v at this;refine⟨.int .i64 n,fun _=>?_,.p (.int _ _)⟩;have h:v=.slice none 0 0∧n=0∨∃a g,v=.slice a n g:=by
   cases this with
   |p f =>
    cases f with
    |nil=>simp
    |room=>simp
    |lst=>simp
  rcases h with⟨rfl,rfl⟩|⟨a,g,rfl⟩<;>simp[BX,F5,bU,d,hv]
theorem eC(y:AY E.Γ L x=some (.vec b tag off len))(k:hget H b=some (.vec e cs tag z))(A:E.P.underlying t=some (.slice e'))(q:Q (.p (.int .i64 len)) H nx) :
 Aa E w ⟨dst,.call { callee:=.builtin .len,args:=#[x],argTypes:=#[t] },ty,pos,af,gd⟩ L H nx Q :=
 Aa.quiet q fun m F σ s r J=>by
  have d:=IY r J y k;obtain⟨C,B⟩:=r.hp b _ k;refine⟨.int .i64 len,fun _=>?_,.p (.int _ _)⟩;have h:∃a g,ev s x=.slice a len g:=by
   rcases B with⟨j,u,f⟩|⟨c,g,K,j,u,f,S,O,N,M⟩
   ·rcases f with⟨f,_⟩|⟨X,U,W,f,_⟩<;>rw[f] at d<;>simp only[Gi,Dn] at d<;>obtain⟨I,V,G⟩:=d<;>subst G<;>exact⟨_,_,I⟩
   ·rw[j] at d
    exact⟨_,_,d⟩
  obtain⟨a,g,h⟩:=h;simp[BX,F5,bU,A,h]
theorem qr(a:AY E.Γ L x=some (.p (.str s)))(b:E.P.underlying t=some .string)(q:Q (.p (.int .i64 s.size)) H nx) :
 Aa E w ⟨dst,.call { callee:=.builtin .len,args:=#[x],argTypes:=#[t] },ty,pos,af,gd⟩ L H nx Q :=
 Aa.quiet q fun m F σ e d c=>⟨.int .i64 s.size,fun _=>by simp[BX,F5,bU,b,NQ d c a],.p (.int _ _)⟩
theorem nX{Γ:Nat→Option (List Value×TypeId)}{m:Mem}{F:Nat→Prop}(h:Ctx Γ m F σ H nx)(d:Dw m F (htag H) σ nx cs vs)(b:vs.all BQ=true) :
 Ctx Γ (m.alloc (.cells vs e 0 false)) F (upd σ nx (.pointer (some ⟨m.size,0,none⟩))) ((nx,.box e cs)::H) (nx+1) ∧
 Step m F σ H nx (m.alloc (.cells vs e 0 false)) F (upd σ nx (.pointer (some ⟨m.size,0,none⟩))) ((nx,.box e cs)::H) (nx+1)∧Quiet m (m.alloc (.cells vs e 0 false)):=by
 refine h.new (by simp[Mem.alloc]) (fun c b=>by rw[dZ,if_neg (by omega)]) (by simp only[Mem.alloc];omega) (fun c b=>by simp only[Dv,Option.some.injEq] at b;omega) ?_;refine⟨m.size,vs,rfl,by simp[Mem.alloc],fun a=>cH _ (h.fr _ a),by rw[dZ,if_pos rfl],?_,b⟩;exact d.mono (fun c a=>⟨a,by rw[dZ,if_neg (by have:=h.fr c a;omega)]⟩) (kR (Γ:=Γ) (m:=m) (F:=F) _ _) (cT _)
theorem Aa.box{e:TypeId}(c:AY E.Γ L x=some r)(d:UW r)(q:Q (.ref nx 0) ((nx,.box e (Jv r))::H) (nx+1)):Aa E w ⟨dst,.box e x,ty,pos,af,gd⟩ L H nx Q:=by
 intro m F σ t b g;obtain⟨f,a⟩:=MQ d (Bz b g c);obtain⟨k,j,h⟩:=nX (e:=e) b f a;refine GX.op (v:=.pointer (some ⟨m.size,0,none⟩)) (fun _=>?_) ⟨_,_,_,F,_,q,k,?_,j,fun _=>h⟩
 ·simp only[BX,F5,a,if_true]
 ·exact .ref (bN _) rfl fun _=>⟨m.size,upd_same _ _ _,rfl⟩
theorem Dw.zero{m:Mem}{F:Nat→Prop}{T:Nat→Option Tg}{σ:Nat→Value}{n:Nat}(h:z.all Am.plainCell=true):Dw m F T σ n (z.map fun v=>.p (Iw v)) z:=by
 have:=ma (T:=T) (σ:=σ) (n:=n) (Jl (m:=m) (F:=F) h);rw[fa] at this;exact this
theorem Aa.alloc{e:TypeId}(a:Ci E.P e=some z)(q:Q (.ref nx 0) ((nx,.box e (z.map fun v=>.p (Iw v)))::H) (nx+1)):Aa E w ⟨dst,.alloc e,ty,pos,af,gd⟩ L H nx Q:=by
 intro m F σ t c h;obtain⟨_,_,_,_,_,b⟩:=BM a;obtain⟨g,f,d⟩:=nX (e:=e) c (Dw.zero b) (Dq b);refine GX.op (v:=.pointer (some ⟨m.size,0,none⟩)) (fun _=>?_) ⟨_,_,_,F,_,q,g,?_,f,fun _=>d⟩
 ·simp only[BX,F5,a,Option.map_some]
 ·exact .ref (bN _) rfl fun _=>⟨m.size,upd_same _ _ _,rfl⟩
theorem sx(X:AY E.Γ L a=some (.ref b off))(S:AY E.Γ L x=some r)(s:hget H b=some (.box e cs))(U:UW r)
 (hi:E.P.info? t=some i) (hl:(Jv r).length=i.size) (h0:0<i.size) (W:off+i.size≤cs.length) (q:Q (.DK []) (hput H b (.box e (CG cs off (Jv r)))) nx):Aa E true ⟨dst,.store t a x,ty,pos,af,gd⟩ L H nx Q:=by
 intro m F σ j y K;obtain⟨c,Z,u⟩:=aS y K X s;obtain⟨J,Y⟩:=MQ U (Bz y K S);obtain⟨V,c',p,G,N,C,r4,B,M⟩:=y.hp b _ s;rw[u] at G;cases G;have I:=J.length;have A:=B.length;have z:Nj E.P t ⟨c,off,none⟩ (ev j x) m=some (m.put c (.cells (splice p off (ev j x).cells.toList) e 0 false)):=by
  unfold Nj Gm;simp only[MK,Option.getD_none,beq_self_eq_true,Bool.true_and,Bool.and_eq_true,decide_eq_true_eq];grind
 have f:∀d,c≠d→(m.put c (.cells (splice p off (ev j x).cells.toList) e 0 false)).get d=m.get d:=fun d g=>by rw[cg,if_neg g]
 obtain⟨c1,c2⟩:=y.change (m':=m.put c (.cells (splice p off (ev j x).cells.toList) e 0 false)) (x':=.box e (CG cs off (Jv r))) (s':=σ b) s trivial (fun _=>rfl) (ab _)
  (fun d _ g=>f d fun e=>g (by rw[u,e];rfl)) (fun k k1 k2 O=>by
   have:=O c (by rw[u];rfl);simp only[Mem.put];omega) (fun d g=>.inl g) (by
   refine⟨c,splice p off (ev j x).cells.toList,u,N,C,by rw[cg,if_pos rfl],?_,Ky _ M Y⟩;refine(kw off B J).mono (fun d g=>⟨g,f d fun e=>C (e▸g)⟩) (EU (x':=.box e (CG cs off (Jv r))) s trivial fun _=>rfl) (ab _))
 refine GX.op (v:=undef) (fun _=>?_) ⟨_,_,_,F,_,q,c1,.DK .nil,c2,fun h=>by cases h⟩;simp only[BX,F5,Z,z,Option.map_some]
theorem d9{t:TypeId}{a x:Operand}{i:TypeInfo}(q:Q (.DK []) (hput H b (.box e (CG cs off (Jv r)))) nx)(X:AY E.Γ L a=some (.ref b off):=by rfl)(S:AY E.Γ L x=some r:=by rfl)(s:hget H b=some (.box e cs):=by rfl)(U:UW r:=by trivial)(hi:E.P.info? t=some i:=by rfl)(hl:(Jv r).length=i.size:=by rfl)(h0:0<i.size:=by exact AZ rfl)(W:off+i.size≤cs.length:=by exact le_dec rfl):Aa E true ⟨dst,.store t a x,ty,pos,af,gd⟩ L H nx Q:=sx X S s U hi hl h0 W q
theorem rI(ha:AY E.Γ L a=some (.Fb b tag off))(Y:AY E.Γ L x=some r)(K:hget H b=some (.vec e cs tag z))(hn:UW r)
 (hf:Jv r=C.map .p) (hi:E.P.info? t=some i) (hl:C.length=i.size) (h0:0<i.size) (hle:off+i.size≤cs.length) (q:Q (.DK []) (hput H b (.vec e (CG cs off C) tag z)) nx):Aa E true ⟨dst,.store t a x,ty,pos,af,gd⟩ L H nx Q:=by
 intro m F σ y B U;obtain⟨c,k,g,h3,u⟩:=uF B U ha K;obtain⟨M,h6⟩:=MQ hn (Bz B U Y);rw[hf] at M;obtain⟨hlt,Z⟩:=B.hp b _ K;rcases Z with⟨G,O,s⟩|⟨c',g',A,G,O,s,r4,N,W,V⟩
 ·rcases s with⟨s,_⟩|⟨b',o',g',s,_⟩<;>rw[s] at u<;>cases u
 rw[u] at G;cases G;have S:=M.length;have J:=N.length;have I:Nj E.P t ⟨c,off,some g⟩ (ev y x) m=some (m.put c (.cells (splice A off (ev y x).cells.toList) e g false)):=by
  unfold Nj Gm;simp only[MK,Option.getD_some,beq_self_eq_true,Bool.true_and,Bool.and_eq_true,decide_eq_true_eq];grind
 have f:∀d,c≠d→(m.put c (.cells (splice A off (ev y x).cells.toList) e g false)).get d=m.get d:=fun d j=>by rw[cg,if_neg j]
 obtain⟨c1,c2⟩:=B.change (m':=m.put c (.cells (splice A off (ev y x).cells.toList) e g false)) (x':=.vec e (CG cs off C) tag z) (s':=σ b) K (ab _) (fun _=>rfl) (ab _)
  (fun d _ j=>f d fun e=>j (by rw[u,e];rfl)) (fun k k1 k2 X=>by
   have:=X c (by rw[u];rfl);simp only[Mem.put];omega) (fun d j=>.inl j) (by
   refine .inr ⟨c,g,splice A off (ev y x).cells.toList,u,O,s,by rw[cg,if_pos rfl],?_,Ky _ W h6,V⟩;exact(lm off N (k7 M)).mono (fun d j=>⟨j,f d fun e=>s (e▸j)⟩))
 refine GX.op (v:=undef) (fun _=>?_) ⟨_,_,_,F,_,q,c1,.DK .nil,c2,fun h=>by cases h⟩;simp only[BX,F5,h3,I,Option.map_some]
end
end Go.Vm
