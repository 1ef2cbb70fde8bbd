/-
  Texts of a proof, merged (VmA). Conditions: in each statement.
-/
import Derived.Test.YtnjkoebfgcbbdaaGreatDoorKPd
set_option linter.unusedSimpArgs false
set_option linter.unusedVariables false
set_option linter.unusedSectionVars false
set_option maxRecDepth 100000
set_option maxHeartbeats 8000000
abbrev bL:=@Nat.lt_succ_self
abbrev cr:=@Nat.lt_irrefl
abbrev eh:=@Bool.eq_iff_iff
namespace Go.Vm
section
open Go.Am
inductive FV where
 |int (k:IntKind) (n:Int)
 |bool (b:Bool)
 |str (s:ByteArray)
 |val (x:Value)
 |agg (cs:List FV)
 |lst (e:TypeId) (cs:List FV) (n:Nat)
 |Fb (cs:List FV)
 |own (e:TypeId) (cs:List FV) (n:Nat)
inductive PV where
 |p (x:FV)
 |agg (cs:List PV)
 |D5 (vs:List PV)
 |vec (b tag off len:Nat)
 |ref (b off:Nat)
 |E8 (b tag off:Nat)
 |mref (b:Nat)
 |clo (f:FuncId) (fs cs:List PV)
inductive HB where
 |box (e:TypeId) (cs:List PV)
 |vec (e:TypeId) (cs:List FV) (n:Nat) (z:Bool)
 |map (es:List (FV×FV))
 |EX (e:TypeId) (cs:List PV) (n:Nat)
 |JZ (ks:List FV) (cs:List PV)
abbrev Heap:=List (Nat×HB)
abbrev Frame:=List (Nat×PV)
inductive Tg where
 |box
 |vec (n:Nat)
 |map
def Tg.le:Tg→Tg→Prop
 | .box,.box=>True
 | .map,.map=>True
 | .vec n,.vec k=>n≤k
 |_,_=>False
def HB.tag:HB→Tg
 | .box ..=>.box
 | .vec _ _ n _=>.vec n
 | .map _=>.map
 | .EX _ _ n=>.vec n
 | .JZ _ _=>.map
def hget:Heap→Nat→Option HB
 |[],_=>none
 |(a,x)::H,b=>match Nat.decEq a b with
  | .isTrue _=>some x
  | .isFalse _=>hget H b
def hput:Heap→Nat→HB→Heap
 |[],_,_=>[]
 |(a,x)::H,b,y=>match Nat.decEq a b with
  | .isTrue _=>(a,y)::H
  | .isFalse _=>(a,x)::hput H b y
def Fv:Frame→Nat→Option PV
 |[],_=>none
 |(a,x)::L,b=>match Nat.decEq a b with
  | .isTrue _=>some x
  | .isFalse _=>Fv L b
theorem Bv(a:Nat)(x:HB)(H:Heap)(b:Nat):hget ((a,x)::H) b=if a=b then some x else hget H b:=by
 simp only[hget];cases Nat.decEq a b with
 |isTrue h=>grind
 |isFalse h=>grind
theorem Ed(a:Nat)(x:PV)(H:Frame)(b:Nat):Fv ((a,x)::H) b=if a=b then some x else Fv H b:=by
 simp only[Fv];cases Nat.decEq a b with
 |isTrue h=>grind
 |isFalse h=>grind
theorem Fq(H:Heap)(b c:Nat)(y:HB):hget (hput H b y) c=if b=c then(hget H b).map (fun _=>y) else hget H c:=by
 induction H with
 |nil=>simp[hput,hget]
 |cons a H d =>
  obtain⟨a,x⟩:=a;simp only[hput];cases hd:Nat.decEq a b with
  |isTrue h =>
   subst h;simp only[Bv];by_cases e:a=c<;>simp[e]
  |isFalse h =>
   simp only[Bv,d];grind
def htag(H:Heap)(b:Nat):Option Tg:=(hget H b).map HB.tag
def Df:Value:=.slice none 0 0
mutual
inductive RF(m:Mem)(F:Nat→Prop):FV→Value→Prop
 |int (k:IntKind) (n:Int):RF m F (.int k n) (.int k n)
 |bool (b:Bool):RF m F (.bool b) (.bool b)
 |str (s:ByteArray):RF m F (.str s) (.string s)
 |val {x:Value} (h:Am.plainCell x=true):RF m F (.val x) x
 |agg {cs:List FV} {vs:List Value} (h:Dt m F cs vs) (hc:vs.all BK=true):RF m F (.agg cs) (.agg vs.toArray)
 |nil (e:TypeId):RF m F (.lst e [] 0) (.slice none 0 0)
 |room (e:TypeId) (b o g:Nat):RF m F (.lst e [] 0) (.slice (some ⟨b,o,some g⟩) 0 0)
 |lst {e:TypeId} {cs:List FV} {n b o g:Nat} {vs ws:List Value} {ro:Bool} (hF:F b) (hm:m.get b=.cells vs e g ro) (hw:takeN cs.length (vs.drop o)=some ws) (h:Dt m F cs ws) (hc:ws.all BK=true) :
  RF m F (.lst e cs n) (.slice (some ⟨b,o,none⟩) n g)
 |Fb {cs:List FV} {b o g:Nat} {sp:Option Nat} {e:TypeId} {vs ws:List Value} {ro:Bool} (hF:F b) (hm:m.get b=.cells vs e g ro) (hg:NK ⟨b,o,sp⟩=g) (hw:takeN cs.length (vs.drop o)=some ws) (h:Dt m F cs ws) (hc:ws.all BK=true) :
  RF m F (.Fb cs) (.pointer (some ⟨b,o,sp⟩))
 |own {e:TypeId} {cs:List FV} {n b o g:Nat} {vs ws:List Value} (hF:F b) (hm:m.get b=.cells vs e g false) (hw:takeN cs.length (vs.drop o)=some ws) (h:Dt m F cs ws) (hc:ws.all BK=true) :
  RF m F (.own e cs n) (.slice (some ⟨b,o,none⟩) n g)
 |TY (e:TypeId):RF m F (.own e [] 0) (.slice none 0 0)
 |RV (e:TypeId) (b o g:Nat):RF m F (.own e [] 0) (.slice (some ⟨b,o,some g⟩) 0 0)
inductive Dt(m:Mem)(F:Nat→Prop):List FV→List Value→Prop
 |nil:Dt m F [] []
 |cons {c:FV} {v:Value} {cs:List FV} {vs:List Value} (h:RF m F c v) (t:Dt m F cs vs):Dt m F (c::cs) (v::vs)
end
def FU(s:Value)(off len:Nat)(v:Value):Prop :=
 match s with
 | .slice (some ⟨c,0,none⟩) _ g=>v=.slice (some ⟨c,off,none⟩) len g
 |s=>v=s∧off=0∧len=0
mutual
inductive RP(m:Mem)(F:Nat→Prop)(T:Nat→Option Tg)(σ:Nat→Value)(nx:Nat):PV→Value→Prop
 |p {x:FV} {v:Value} (h:RF m F x v):RP m F T σ nx (.p x) v
 |agg {cs:List PV} {vs:List Value} (h:Dv m F T σ nx cs vs) (hc:vs.all BK=true):RP m F T σ nx (.agg cs) (.agg vs.toArray)
 |D5 {cs:List PV} {vs:List Value} (h:Dv m F T σ nx cs vs):RP m F T σ nx (.D5 cs) (.tuple vs.toArray)
 |vec {b tag off len:Nat} {v:Value} (hb:b<nx) (hc:BK v=true) (h:∀n,T b=some (.vec n)→tag≤n∧(tag=n→FU (σ b) off len v)):RP m F T σ nx (.vec b tag off len) v
 |ref {b off:Nat} {v:Value} (hb:b<nx) (hc:BK v=true) (h:T b=some .box→∃c,σ b=.pointer (some ⟨c,0,none⟩)∧v=.pointer (some ⟨c,off,none⟩)):RP m F T σ nx (.ref b off) v
 |E8 {b tag off:Nat} {v:Value} (hb:b<nx) (hc:BK v=true) (h:∀n,T b=some (.vec n)→tag≤n∧(tag=n→∃c k g,σ b=.slice (some ⟨c,0,none⟩) k g∧v=.pointer (some ⟨c,off,some g⟩))) :
  RP m F T σ nx (.E8 b tag off) v
 |mref {b:Nat} {v:Value} (hb:b<nx) (hc:BK v=true) (h:T b=some .map→v=σ b):RP m F T σ nx (.mref b) v
 |clo {f:FuncId} {fs cs:List PV} {vf vc:List Value} (h1:Dv m F T σ nx fs vf) (h2:Dv m F T σ nx cs vc):RP m F T σ nx (.clo f fs cs) (.func (.func f) vf.toArray vc.toArray)
inductive Dv(m:Mem)(F:Nat→Prop)(T:Nat→Option Tg)(σ:Nat→Value)(nx:Nat):List PV→List Value→Prop
 |nil:Dv m F T σ nx [] []
 |cons {c:PV} {v:Value} {cs:List PV} {vs:List Value} (h:RP m F T σ nx c v) (t:Dv m F T σ nx cs vs):Dv m F T σ nx (c::cs) (v::vs)
end
mutual
theorem RF.mono{m m':Mem}{F F':Nat→Prop}(a:∀c,F c→F' c∧m'.get c=m.get c):∀{x:FV} {v:Value},RF m F x v→RF m' F' x v
 |_,_,.int k n=>.int k n
 |_,_,.bool b=>.bool b
 |_,_,.str s=>.str s
 |_,_,.val h=>.val h
 |_,_,.agg h hc=>.agg (Dt.mono a h) hc
 |_,_,.nil e=>.nil e
 |_,_,.room e b o g=>.room e b o g
 |_,_,.lst hb hm hw h hc=>.lst (a _ hb).1 ((a _ hb).2.trans hm) hw (Dt.mono a h) hc
 |_,_,.Fb hb hm hg hw h hc=>.Fb (a _ hb).1 ((a _ hb).2.trans hm) hg hw (Dt.mono a h) hc
 |_,_,.own hb hm hw h hc=>.own (a _ hb).1 ((a _ hb).2.trans hm) hw (Dt.mono a h) hc
 |_,_,.TY e=>.TY e
 |_,_,.RV e b o g=>.RV e b o g
theorem Dt.mono{m m':Mem}{F F':Nat→Prop}(a:∀c,F c→F' c∧m'.get c=m.get c):∀{x:List FV} {v:List Value},Dt m F x v→Dt m' F' x v
 |_,_,.nil=>.nil
 |_,_,.cons h t=>.cons (RF.mono a h) (Dt.mono a t)
end
def Xq:Option Tg→Option Tg→Prop
 |_,none=>True
 |some t,some t'=>t.le t'
 |none,some _=>False
def Names(nx:Nat)(T:Nat→Option Tg)(σ:Nat→Value)(T':Nat→Option Tg)(σ':Nat→Value):Prop :=
 ∀b,b<nx→Xq (T b) (T' b)∧(∀t,T b=some t→T' b=some t→σ' b=σ b)
theorem Names.vec{nx:Nat}{T T':Nat→Option Tg}{σ σ':Nat→Value}(h:Names nx T σ T' σ'){b n:Nat}(d:b<nx)(c:T' b=some (.vec n)):∃k,T b=some (.vec k)∧k≤n∧(k=n→σ' b=σ b):=by
 obtain⟨a,f⟩:=h b d;rw[c] at a;cases hT:T b with
 |none=>rw[hT] at a;exact a.elim
 |some t =>
  rw[hT] at a;cases t with
  |vec k=>exact⟨k,rfl,a,fun e=>f _ (by grind) c⟩
  |box=>exact a.elim
  |map=>exact a.elim
theorem Names.box{nx:Nat}{T T':Nat→Option Tg}{σ σ':Nat→Value}(h:Names nx T σ T' σ'){b:Nat}(d:b<nx)(c:T' b=some .box):T b=some .box∧σ' b=σ b:=by
 obtain⟨a,e⟩:=h b d;rw[c] at a;cases hT:T b with
 |none=>rw[hT] at a;exact a.elim
 |some t =>
  rw[hT] at a;cases t with
  |box=>grind
  |vec k=>exact a.elim
  |map=>exact a.elim
theorem Names.map{nx:Nat}{T T':Nat→Option Tg}{σ σ':Nat→Value}(h:Names nx T σ T' σ'){b:Nat}(d:b<nx)(c:T' b=some .map):T b=some .map∧σ' b=σ b:=by
 obtain⟨a,e⟩:=h b d;rw[c] at a;cases hT:T b with
 |none=>rw[hT] at a;exact a.elim
 |some t =>
  rw[hT] at a;cases t with
  |map=>grind
  |vec k=>exact a.elim
  |box=>exact a.elim
theorem Xq.refl(t:Option Tg):Xq t t:=by
 cases t with
 |none=>trivial
 |some t=>cases t<;>simp[Xq,Tg.le]
theorem Xq.trans{a b c:Option Tg}(h:Xq a b)(k:Xq b c):Xq a c:=by
 cases c with
 |none=>trivial
 |some c =>
  cases b with
  |none=>exact k.elim
  |some b =>
   cases a with
   |none=>exact h.elim
   |some a =>
    cases a<;>cases b<;>cases c<;>simp_all [Xq,Tg.le]
    omega
theorem Xq.antisymm{a b c:Option Tg}(h:Xq a b)(k:Xq b c)(e:c=a):b=a:=by
 subst e;cases c with
 |none =>
  cases b with
  |none=>rfl
  |some b=>exact h.elim
 |some c =>
  cases b with
  |none=>exact k.elim
  |some b =>
   cases c<;>cases b<;>simp_all [Xq,Tg.le]
   omega
theorem Names.refl(nx:Nat)(T:Nat→Option Tg)(σ:Nat→Value):Names nx T σ T σ:=fun _ _=>⟨Xq.refl _,fun _ _ _=>rfl⟩
theorem Names.trans{nx nx':Nat}{T T' c:Nat→Option Tg}{σ σ' a:Nat→Value}(h:Names nx T σ T' σ')(k:Names nx' T' σ' c a)(f:nx≤nx'):Names nx T σ c a:=fun b d=>by
 obtain⟨e,q⟩:=h b d;obtain⟨k1,p⟩:=k b (ag d f);refine⟨e.trans k1,fun t j g=>?_⟩;have r:=Xq.antisymm e k1 (g.trans j.symm);grind
section
variable {m m':Mem}{F F':Nat→Prop}{T T':Nat→Option Tg}{σ σ':Nat→Value}{nx nx':Nat}
mutual
theorem RP.mono(j:∀c,F c→F' c∧m'.get c=m.get c)(d:Names nx T σ T' σ')(b:nx≤nx'):∀{x:PV} {v:Value},RP m F T σ nx x v→RP m' F' T' σ' nx' x v
 |_,_,.p h=>.p (h.mono j)
 |_,_,.agg h hc=>.agg (Dv.mono j d b h) hc
 |_,_,.D5 h=>.D5 (Dv.mono j d b h)
 |_,_,.vec hb hc h=>.vec (ag hb b) hc fun n f=>by
  obtain⟨k,a,g,r⟩:=d.vec hb f;obtain⟨s,q⟩:=h k a;exact⟨by omega,fun e=>by rw[r (by omega)];exact q (by omega)⟩
 |_,_,.ref hb hc h=>.ref (ag hb b) hc fun f=>by
  obtain⟨a,g⟩:=d.box hb f;rw[g];exact h a
 |_,_,.E8 hb hc h=>.E8 (ag hb b) hc fun n f=>by
  obtain⟨k,a,g,r⟩:=d.vec hb f;obtain⟨s,q⟩:=h k a;exact⟨by omega,fun e=>by rw[r (by omega)];exact q (by omega)⟩
 |_,_,.mref hb hc h=>.mref (ag hb b) hc fun f=>by
  obtain⟨a,g⟩:=d.map hb f;rw[g];exact h a
 |_,_,.clo a g=>.clo (Dv.mono j d b a) (Dv.mono j d b g)
theorem Dv.mono(d:∀c,F c→F' c∧m'.get c=m.get c)(b:Names nx T σ T' σ')(a:nx≤nx'):∀{x:List PV} {v:List Value},Dv m F T σ nx x v→Dv m' F' T' σ' nx' x v
 |_,_,.nil=>.nil
 |_,_,.cons h t=>.cons (RP.mono d b a h) (Dv.mono d b a t)
end
end
def Dp:Value→Option Nat
 | .pointer (some a)=>some a.block
 | .slice (some ⟨c,_,none⟩) _ _=>some c
 | .map (some r)=>some r
 |_=>none
def oJ(m:Mem)(F:Nat→Prop)(es:List (FV×FV))(l:List MapEntry):Prop :=
 Dt m F (es.map (·.1)) (l.map (·.key))∧Dt m F (es.map (·.2)) (l.map (·.val))
def Stamped(l:List MapEntry)(clock:Nat):Prop:=l.map (·.born)=List.range l.length∧clock=l.length
def RB(m:Mem)(F:Nat→Prop)(T:Nat→Option Tg)(σ:Nat→Value)(nx:Nat)(s:Value):HB→Prop
 | .box e cs=>∃c vs,s=.pointer (some ⟨c,0,none⟩)∧c<m.size∧¬ F c∧m.get c=.cells vs e 0 false∧Dv m F T σ nx cs vs∧vs.all BK=true
 | .vec e cs n z=>(cs=[]∧n=0∧(s=Df∧z=true∨∃b o g,s=.slice (some ⟨b,o,some g⟩) 0 0∧z=false)) ∨
  ∃c g vs,s=.slice (some ⟨c,0,none⟩) n g∧c<m.size∧¬ F c∧m.get c=.cells vs e g false∧Dt m F cs vs∧vs.all BK=true∧(n=0→z=false)
 | .map es=>∃r l clock,s=.map (some r)∧r<m.size∧¬ F r∧m.get r=.map l clock∧oJ m F es l
 | .EX e cs n=>∃c g vs,s=.slice (some ⟨c,0,none⟩) n g∧c<m.size∧¬ F c∧m.get c=.cells vs e g false∧Dv m F T σ nx cs vs∧vs.all BK=true
 | .JZ ks cs=>∃r l clock,s=.map (some r)∧r<m.size∧¬ F r∧m.get r=.map l clock∧Dt m F ks (l.map (·.key))∧Dv m F T σ nx cs (l.map (·.val))∧Stamped l clock
structure Ctx(Γ:Nat→Option (List Value×TypeId))(m:Mem)(F:Nat→Prop)(σ:Nat→Value)(H:Heap)(nx:Nat):Prop where
 fr:∀c,F c→c<m.size
 hp:∀b x,hget H b=some x→b<nx∧RB m F (htag H) σ nx (σ b) x
 sep:∀b b' x x' c,hget H b=some x→hget H b'=some x'→Dp (σ b)=some c→Dp (σ b')=some c→b=b'
 gl:∀g vs e,Γ g=some (vs,e)→F g∧m.get g=.cells vs e 0 true∧vs.all Am.plainCell=true
def own(H:Heap)(σ:Nat→Value)(c:Nat):Prop:=∃b x,hget H b=some x∧Dp (σ b)=some c
structure Step(m:Mem)(F:Nat→Prop)(σ:Nat→Value)(H:Heap)(nx:Nat)(m':Mem)(F':Nat→Prop)(σ':Nat→Value)(H':Heap)(nx':Nat):Prop where
 size:m.size≤m'.size
 keep:∀c,c<m.size→¬ own H σ c→m'.get c=m.get c
 KP:∀c,F c→F' c
 KO:∀c,c<m.size→F' c→F c∨own H σ c
 JF:∀c,c<m.size→own H' σ' c→own H σ c
 Xd:nx≤nx'
 names:Names nx (htag H) σ (htag H') σ'
 low:∀k,k≤m.low→k≤m.size→(∀c,own H σ c→k≤c)→k≤m'.low
variable {Γ:Nat→Option (List Value×TypeId)}
theorem Ctx.MB{m:Mem}{F:Nat→Prop}{σ:Nat→Value}{H:Heap}{nx c:Nat}(h:Ctx Γ m F σ H nx)(y:own H σ c):¬ F c∧c<m.size:=by
 obtain⟨b,x,A,d⟩:=y;obtain⟨_,j⟩:=h.hp b x A;cases x with
 |box e q =>
  obtain⟨u,s,a,p,k,_⟩:=j;simp only[Dp,Option.some.injEq] at d;grind
 |vec e q n z =>
  rcases j with⟨_,_,a⟩|⟨u,g,s,a,p,k,_⟩
  ·rcases a with⟨a,_⟩|⟨G,o,g,a,_⟩<;>rw[a] at d<;>simp[Dp,Df] at d
  ·simp only[Dp,Option.some.injEq] at d
   grind
 |map C =>
  obtain⟨r,l,f,a,p,k,_⟩:=j;simp only[Dp,Option.some.injEq] at d;grind
 |EX e q n =>
  obtain⟨u,g,s,a,p,k,_⟩:=j;simp only[Dp,Option.some.injEq] at d;grind
 |JZ B q =>
  obtain⟨r,l,f,a,p,k,_⟩:=j;simp only[Dp,Option.some.injEq] at d;grind
theorem Step.refl(m:Mem)(F:Nat→Prop)(σ:Nat→Value)(H:Heap)(nx:Nat):Step m F σ H nx m F σ H nx :=
 ⟨ab _,fun _ _ _=>rfl,fun _ h=>h,fun _ _ h=>.inl h,fun _ _ h=>h,ab _,Names.refl _ _ _,fun _ h _ _=>h⟩
theorem Step.trans{m m' f:Mem}{F F' p:Nat→Prop}{σ σ' b:Nat→Value}{H H' g:Heap}{nx nx' d:Nat}(h:Step m F σ H nx m' F' σ' H' nx')(k:Step m' F' σ' H' nx' f p b g d) :
 Step m F σ H nx f p b g d where
 size:=am h.size k.size
 keep c a e:=(k.keep c (ag a h.size) fun o=>e (h.JF c a o)).trans (h.keep c a e)
 KP c a:=k.KP c (h.KP c a)
 KO c a hf:=by
  rcases k.KO c (ag a h.size) hf with h1|h1
  ·exact h.KO c a h1
  ·exact .inr (h.JF c a h1)
 JF c a e:=h.JF c a (k.JF c (ag a h.size) e)
 Xd:=am h.Xd k.Xd
 names:=h.names.trans k.names h.Xd
 low j h1 h2 h3:=k.low j (h.low j h1 h2 h3) (am h2 h.size) fun c e=>by
  by_cases a:c<m.size
  ·exact h3 c (h.JF c a e)
  omega
theorem Step.frozen{m m':Mem}{F F':Nat→Prop}{σ σ':Nat→Value}{H H':Heap}{nx nx':Nat}(h:Step m F σ H nx m' F' σ' H' nx')(b:Ctx Γ m F σ H nx):∀c,F c→F' c∧m'.get c=m.get c:=fun c a =>
 ⟨h.KP c a,h.keep c (b.fr c a) fun d=>(b.MB d).1 a⟩
theorem RP.step{m m':Mem}{F F':Nat→Prop}{σ σ':Nat→Value}{H H':Heap}{nx nx':Nat}(h:Step m F σ H nx m' F' σ' H' nx')(a:Ctx Γ m F σ H nx){x:PV}{v:Value}(b:RP m F (htag H) σ nx x v) :
 RP m' F' (htag H') σ' nx' x v:=b.mono (h.frozen a) h.names h.Xd
def RL(m:Mem)(F:Nat→Prop)(T:Nat→Option Tg)(σ:Nat→Value)(nx:Nat)(L:Frame)(t:Tr Value):Prop:=∀i v,Fv L i=some v→RP m F T σ nx v (Cm t i)
theorem RL.step{m m':Mem}{F F':Nat→Prop}{σ σ':Nat→Value}{H H':Heap}{nx nx':Nat}(h:Step m F σ H nx m' F' σ' H' nx')(a:Ctx Γ m F σ H nx){L:Frame}{t:Tr Value}(b:RL m F (htag H) σ nx L t) :
 RL m' F' (htag H') σ' nx' L t:=fun i v c=>(b i v c).step h a
theorem RL.set{m:Mem}{F:Nat→Prop}{T:Nat→Option Tg}{σ:Nat→Value}{nx:Nat}{L:Frame}{t:Tr Value}(b:RL m F T σ nx L t){d:Nat}{x:PV}{v:Value}(h:RP m F T σ nx x v) :
 RL m F T σ nx ((d,x)::L) (QO t d v):=fun i y a=>by
 rw[Ed] at a;rw[Dj];by_cases e:d=i
 ·grind
 ·rw[if_neg e] at a ⊢
  exact b i y a
def Ig(L:Frame)(dst:Option Nat)(x:PV):Frame :=
 match dst with
 |some d=>(d,x)::L
 |none=>L
theorem RL.put{m:Mem}{F:Nat→Prop}{T:Nat→Option Tg}{σ:Nat→Value}{nx:Nat}{L:Frame}{t:Tr Value}(a:RL m F T σ nx L t){d:Option Nat}{x:PV}{v:Value}(h:RP m F T σ nx x v) :
 RL m F T σ nx (Ig L d x) (Ic t d v):=by
 cases d with
 |none=>exact a
 |some d=>exact a.set h
def Ij:Value→FV
 | .int k n=>.int k n
 | .bool b=>.bool b
 | .string s=>.str s
 |x=>.val x
theorem xZ{m:Mem}{F:Nat→Prop}{x:Value}(h:Am.plainCell x=true):RF m F (Ij x) x:=by
 unfold Ij;split
 ·exact .int _ _
 ·exact .bool _
 ·exact .str _
 ·exact .val h
theorem IQ{m:Mem}{F:Nat→Prop}:∀{l:List Value},l.all Am.plainCell=true→Dt m F (l.map Ij) l
 |[],_=>.nil
 |v::l,h=>by
  simp only[List.all_cons,Bool.and_eq_true] at h;exact .cons (xZ h.1) (IQ h.2)
def Zm:Value→Option PV
 | .int k n=>some (.p (.int k n))
 | .bool b=>some (.p (.bool b))
 | .string s=>some (.p (.str s))
 | .agg cs=>if cs.toList.all Am.plainCell then some (.p (.agg (cs.toList.map Ij))) else none
 |x=>if Am.plainCell x then some (.p (.val x)) else none
def AU(Γ:Nat→Option (List Value×TypeId))(L:Frame):Operand→Option PV
 | .tmp i=>Fv L i
 | .const v=>Zm v
 | .global g=>(Γ g).map fun x=>.p (.Fb (x.1.map Ij))
 | .func f=>some (.clo f [] [])
theorem YC{m:Mem}{F:Nat→Prop}{T:Nat→Option Tg}{σ:Nat→Value}{nx:Nat}{v:Value}{x:PV}(h:Zm v=some x):RP m F T σ nx x v:=by
 unfold Zm at h;split at h
 ·cases h;exact .p (.int _ _)
 ·cases h;exact .p (.bool _)
 ·cases h;exact .p (.str _)
 ·split at h
  ·rename_i b a
   cases h;exact .p (.agg (IQ a) (Dl a))
  grind
 ·split at h
  ·rename_i a
   cases h;exact .p (.val a)
  grind
theorem Dt.length{m:Mem}{F:Nat→Prop}:∀{cs:List FV} {vs:List Value},Dt m F cs vs→cs.length=vs.length
 |_,_,.nil=>rfl
 |_,_,.cons _ t=>by simp[t.length]
theorem Bz{m:Mem}{F:Nat→Prop}{σ:Nat→Value}{H:Heap}{nx:Nat}{L:Frame}{t:Tr Value}(c:Ctx Γ m F σ H nx)(d:RL m F (htag H) σ nx L t){o:Operand}{x:PV}(h:AU Γ L o=some x) :
 RP m F (htag H) σ nx x (ev t o):=by
 cases o with
 |tmp i=>exact d i x h
 |const v=>exact YC h
 |global g =>
  simp only[AU,Option.map_eq_some_iff] at h;obtain⟨⟨b,e⟩,q,rfl⟩:=h;obtain⟨k,j,a⟩:=c.gl g b e q;exact .p (.Fb k j rfl (by simp[takeN]) (IQ a) (Dl a))
 |func f =>
  cases h;exact .clo .nil .nil
end
section
open Go.Am
structure Env where
 P:Program
 O:BP
 G:List Nat
 Γ:Nat→Option (List Value×TypeId)
structure Base where
 m:Mem
 F:Nat→Prop
 σ:Nat→Value
 H:Heap
 nx:Nat
def Base.to(B:Base)(m:Mem)(F:Nat→Prop)(σ:Nat→Value)(H:Heap)(nx:Nat):Prop:=Step B.m B.F B.σ B.H B.nx m F σ H nx
def Quiet(m m':Mem):Prop:=∀k,k≤m.low→k≤m.size→k≤m'.low
def Aa(E:Env)(w:Bool)(o:Oper)(L:Frame)(H:Heap)(nx:Nat)(Q:PV→Heap→Nat→Prop):Prop :=
 ∀m F σ t,Ctx E.Γ m F σ H nx→RL m F (htag H) σ nx L t →
  Gy E.P E.O E.G o ⟨t,m⟩ fun v m'=>∃r H' nx' F' σ',Q r H' nx'∧Ctx E.Γ m' F' σ' H' nx'∧RP m' F' (htag H') σ' nx' r v∧Step m F σ H nx m' F' σ' H' nx'∧(w=false→Quiet m m')
def Aj(E:Env)(bn:Nat)(ops:Array Oper)(l:List Oper)(L:Frame)(H:Heap)(nx:Nat)(Q:Frame→Heap→Nat→Prop):Prop :=
 ∀(B:Base),B.nx=bn→∀m F σ t,Ctx E.Γ m F σ H nx→RL m F (htag H) σ nx L t→B.to m F σ H nx →
  Vf E.P E.O E.G ops l ⟨t,m⟩ fun s'=>∃L' H' nx' F' σ',Q L' H' nx'∧Ctx E.Γ s'.m F' σ' H' nx'∧RL s'.m F' (htag H') σ' nx' L' s'.t∧B.to s'.m F' σ' H' nx'
def Ag(E:Env)(bn:Nat)(ops:Array Oper)(i:Nat)(l:List Oper)(L:Frame)(H:Heap)(nx:Nat)(Q:Frame→Heap→Nat→Prop):Prop :=
 ∀(B:Base),B.nx=bn→∀m F σ t,Ctx E.Γ m F σ H nx→RL m F (htag H) σ nx L t→B.to m F σ H nx →
  Jd E.P E.O E.G ops i l ⟨t,m⟩ fun s'=>∃L' H' nx' F' σ',Q L' H' nx'∧Ctx E.Γ s'.m F' σ' H' nx'∧RL s'.m F' (htag H') σ' nx' L' s'.t∧B.to s'.m F' σ' H' nx'
def Ad(E:Env)(bn:Nat)(c:Code)(L:Frame)(H:Heap)(nx:Nat)(Q:BH→Frame→Heap→Nat→Prop):Prop :=
 ∀(B:Base),B.nx=bn→∀m F σ t,Ctx E.Γ m F σ H nx→RL m F (htag H) σ nx L t→B.to m F σ H nx →
  Nz E.P E.O E.G c ⟨t,m⟩ fun e s'=>∃L' H' nx' F' σ',Q e L' H' nx'∧Ctx E.Γ s'.m F' σ' H' nx'∧RL s'.m F' (htag H') σ' nx' L' s'.t∧B.to s'.m F' σ' H' nx'
def AL(E:Env)(f:FuncId)(args:List PV)(H:Heap)(nx:Nat)(Q:PV→Heap→Nat→Prop):Prop :=
 ∀m F σ Bh,Ctx E.Γ m F σ H nx→Dv m F (htag H) σ nx args Bh →
  GH E.P E.O E.G f Bh m fun v m'=>∃r H' nx' F' σ',Q r H' nx'∧Ctx E.Γ m' F' σ' H' nx'∧RP m' F' (htag H') σ' nx' r v∧Step m F σ H nx m' F' σ' H' nx'
variable {E:Env}{bn:Nat}{L:Frame}{H:Heap}{nx:Nat}{Q:BH→Frame→Heap→Nat→Prop}
theorem Ad.mono{c:Code}{R:BH→Frame→Heap→Nat→Prop}(h:Ad E bn c L H nx R)(b:∀e a H' nx',R e a H' nx'→Q e a H' nx'):Ad E bn c L H nx Q :=
 fun B d m F σ t j g f=>(h B d m F σ t j g f).mono fun _ _ ⟨a,H',nx',F',σ',q,r⟩=>⟨a,H',nx',F',σ',b _ _ _ _ q,r⟩
theorem Ad.seq{a b:Code}(h:Ad E bn a L H nx fun e c H' nx'=>match e with| .normal=>Ad E bn b c H' nx' Q| .ret=>Q .ret c H' nx'| .exit i=>Q (.exit i) c H' nx'):Ad E bn (.seq a b) L H nx Q:=by
 intro B d m F σ t j g f;refine Nz.seq ((h B d m F σ t j g f).mono ?_);rintro e s ⟨c,H',nx',F',σ',q,r,p,k⟩;cases e with
 |normal=>exact q B d _ _ _ _ r p k
 |ret=>grind
 |exit i=>grind
theorem Ad.skip(h:Q .normal L H nx):Ad E bn .skip L H nx Q:=fun _ _ _ F σ _ c b a=>Nz.skip ⟨L,H,nx,F,σ,h,c,b,a⟩
theorem Ad.ret(h:Q .ret L H nx):Ad E bn .ret L H nx Q:=fun _ _ _ F σ _ c b a=>Nz.ret ⟨L,H,nx,F,σ,h,c,b,a⟩
theorem Ad.exit{i:Nat}(h:Q (.exit i) L H nx):Ad E bn (.exit i) L H nx Q:=fun _ _ _ F σ _ c b a=>Nz.exit ⟨L,H,nx,F,σ,h,c,b,a⟩
theorem Iq{Γ:Nat→Option (List Value×TypeId)}{m:Mem}{F:Nat→Prop}{σ:Nat→Value}{t:Tr Value}{b:Bool}{o:Operand}(a:Ctx Γ m F σ H nx)(c:RL m F (htag H) σ nx L t)(h:AU Γ L o=some (.p (.bool b))):ev t o=.bool b:=by
 have:=Bz a c h;generalize hv:ev t o=v at this;rcases this with⟨h⟩
 rename_i h;cases h;rfl
theorem Ad.cond{c:Operand}{a b:Code}(t:Bool)(q:AU E.Γ L c=some (.p (.bool t)))(j:t=true→Ad E bn a L H nx Q)(k:t=false→Ad E bn b L H nx Q):Ad E bn (.cond c a b) L H nx Q :=
 fun B g m F σ u f d h=>Nz.cond t (Iq f d q) (fun e=>j e B g m F σ u f d h) (fun e=>k e B g m F σ u f d h)
theorem Ad.cond_true{c:Operand}{a b:Code}(e:AU E.Γ L c=some (.p (.bool true)))(d:Ad E bn a L H nx Q):Ad E bn (.cond c a b) L H nx Q:=Ad.cond true e (fun _=>d) (fun h=>by cases h)
theorem Ad.cond_false{c:Operand}{a b:Code}(e:AU E.Γ L c=some (.p (.bool false)))(d:Ad E bn b L H nx Q):Ad E bn (.cond c a b) L H nx Q:=Ad.cond false e (fun h=>by cases h) (fun _=>d)
theorem Ad.Au{c:Operand}{a b:Code}{p:Prop}{_:Decidable p}(f:AU E.Γ L c=some (.p (.bool (decide p))))(d:p→Ad E bn a L H nx Q)(e:¬ p→Ad E bn b L H nx Q):Ad E bn (.cond c a b) L H nx Q :=
 Ad.cond (decide p) f (fun h=>d (of_decide_eq_true h)) (fun h=>e (of_decide_eq_false h))
theorem Ad.block{id:Nat}{b:Code}(h:Ad E bn b L H nx fun e a H' nx'=>match e with| .normal=>Q .normal a H' nx'| .ret=>Q .ret a H' nx'| .exit i=>if i=id then Q .normal a H' nx' else Q (.exit i) a H' nx') :
 Ad E bn (.block id b) L H nx Q:=by
 intro B c m F σ t g f d;refine Nz.block ((h B c m F σ t g f d).mono ?_);grind
theorem Ad.region{id:Nat}{ops:Array Oper}(h:Aj E bn ops ops.toList L H nx (Q .normal)):Ad E bn (.region id ops false) L H nx Q :=
 fun B a m F σ t d c b=>Nz.region (h B a m F σ t d c b)
theorem Ad.E5{id:Nat}{ops:Array Oper}(h:Ag E bn ops 0 ops.toList L H nx (Q .normal)):Ad E bn (.region id ops true) L H nx Q :=
 fun B a m F σ t d c b=>Nz.E5 (h B a m F σ t d c b)
mutual
inductive FLe:FV→FV→Prop
 |refl (x:FV):FLe x x
 |nil (e:TypeId):FLe (.val (.slice none 0 0)) (.lst e [] 0)
 |agg {cs ds:List FV} (h:JB cs ds):FLe (.agg cs) (.agg ds)
 |lst {e:TypeId} {n:Nat} {cs ds:List FV} (h:JB cs ds):FLe (.lst e cs n) (.lst e ds n)
 |Fb {cs ds:List FV} (h:JB cs ds):FLe (.Fb cs) (.Fb ds)
 |own {e:TypeId} {n:Nat} {cs:List FV}:FLe (.own e cs n) (.lst e cs n)
inductive JB:List FV→List FV→Prop
 |refl (l:List FV):JB l l
 |cons {a b:FV} {l l':List FV} (h:FLe a b) (t:JB l l'):JB (a::l) (b::l')
end
mutual
inductive PLe:PV→PV→Prop
 |refl (x:PV):PLe x x
 |p {x y:FV} (h:FLe x y):PLe (.p x) (.p y)
 |agg {cs ds:List PV} (h:PE cs ds):PLe (.agg cs) (.agg ds)
 |D5 {cs ds:List PV} (h:PE cs ds):PLe (.D5 cs) (.D5 ds)
inductive PE:List PV→List PV→Prop
 |refl (l:List PV):PE l l
 |cons {a b:PV} {l l':List PV} (h:PLe a b) (t:PE l l'):PE (a::l) (b::l')
end
theorem PLe.of_eq{x y:PV}(h:x=y):PLe x y:=h▸.refl _
theorem PE.of_eq{x y:List PV}(h:x=y):PE x y:=h▸.refl _
mutual
theorem FLe.length{cs ds:List FV}:JB cs ds→cs.length=ds.length
 | .refl _=>rfl
 | .cons _ t=>by simp[FLe.length t]
end
section
variable {m:Mem}{F:Nat→Prop}
mutual
theorem RF.le:∀{x y:FV},FLe x y→∀{v:Value},RF m F x v→RF m F y v
 |_,_,.refl _,_,h=>h
 |_,_,.nil e,_,h=>by cases h;exact RF.nil e
 |_,_,.agg h,_,r=>by cases r with|agg b a=>exact .agg (Dt.le h b) a
 |_,_,.lst h,_,r=>by
  cases r with
  |nil=>cases h with|refl=>exact .nil _
  |room=>cases h with|refl=>exact .room _ _ _ _
  |lst f d c b a=>exact .lst f d (by rw[← FLe.length h];exact c) (Dt.le h b) a
 |_,_,.Fb h,_,r=>by cases r with|Fb f d g c b a=>exact .Fb f d g (by rw[← FLe.length h];exact c) (Dt.le h b) a
 |_,_,.own,_,r=>by
  cases r with
  |own f d c b a=>exact .lst f d c b a
  |TY=>exact .nil _
  |RV=>exact .room _ _ _ _
theorem Dt.le:∀{x y:List FV},JB x y→∀{v:List Value},Dt m F x v→Dt m F y v
 |_,_,.refl _,_,h=>h
 |_,_,.cons h t,_,r=>by cases r with|cons b a=>exact .cons (RF.le h b) (Dt.le t a)
end
variable {T:Nat→Option Tg}{σ:Nat→Value}{n:Nat}
mutual
theorem RP.le:∀{x y:PV},PLe x y→∀{v:Value},RP m F T σ n x v→RP m F T σ n y v
 |_,_,.refl _,_,h=>h
 |_,_,.p h,_,r=>by cases r with|p a=>exact .p (RF.le h a)
 |_,_,.agg h,_,r=>by cases r with|agg a b=>exact .agg (Dv.le h a) b
 |_,_,.D5 h,_,r=>by cases r with|D5 a=>exact .D5 (Dv.le h a)
theorem Dv.le:∀{x y:List PV},PE x y→∀{v:List Value},Dv m F T σ n x v→Dv m F T σ n y v
 |_,_,.refl _,_,h=>h
 |_,_,.cons h t,_,r=>by cases r with|cons b a=>exact .cons (RP.le h b) (Dv.le t a)
end
end
mutual
def PV.under(k:Nat):PV→Prop
 | .p _=>True
 | .agg cs=>CV.under k cs
 | .D5 cs=>CV.under k cs
 | .vec b _ _ _=>b<k
 | .ref b _=>b<k
 | .E8 b _ _=>b<k
 | .mref b=>b<k
 | .clo _ fs cs=>CV.under k fs∧CV.under k cs
def CV.under(k:Nat):List PV→Prop
 |[]=>True
 |c::cs=>PV.under k c∧CV.under k cs
end
theorem CV.Bg(k:Nat):∀cs:List FV,CV.under k (cs.map .p)
 |[]=>trivial
 |_::cs=>⟨trivial,CV.Bg k cs⟩
section
variable {m:Mem}{F:Nat→Prop}{T T':Nat→Option Tg}{σ:Nat→Value}{nx nx':Nat}
mutual
theorem RP.low(a:∀b t,T' b=some t→T b=some t):∀{x:PV} {v:Value},x.under nx'→RP m F T σ nx x v→RP m F T' σ nx' x v
 |_,_,_,.p h=>.p h
 |_,_,hb,.agg h hc=>.agg (Dv.low a hb h) hc
 |_,_,hb,.D5 h=>.D5 (Dv.low a hb h)
 |_,_,hb,.vec _ hc h=>.vec hb hc fun n c=>h n (a _ _ c)
 |_,_,hb,.ref _ hc h=>.ref hb hc fun c=>h (a _ _ c)
 |_,_,hb,.E8 _ hc h=>.E8 hb hc fun n c=>h n (a _ _ c)
 |_,_,hb,.mref _ hc h=>.mref hb hc fun c=>h (a _ _ c)
 |_,_,hb,.clo h1 h2=>.clo (Dv.low a hb.1 h1) (Dv.low a hb.2 h2)
theorem Dv.low(a:∀b t,T' b=some t→T b=some t):∀{x:List PV} {v:List Value},CV.under nx' x→Dv m F T σ nx x v→Dv m F T' σ nx' x v
 |_,_,_,.nil=>.nil
 |_,_,hb,.cons h t=>.cons (RP.low a hb.1 h) (Dv.low a hb.2 t)
end
end
def F5(k:Nat):Frame→Frame→Prop
 |[],_=>True
 |(i,v0)::L0,L=>(v0.under k∧∃v,Fv L i=some v∧PLe v v0)∧F5 k L0 L
inductive Kw:HB→HB→Prop
 |refl (x:HB):Kw x x
 |box {e:TypeId} {cs ds:List PV} (h:PE cs ds):Kw (.box e cs) (.box e ds)
 |vec {e:TypeId} {cs ds:List FV} {n k:Nat} {z:Bool} (h:JB cs ds) (hn:n=k):Kw (.vec e cs n z) (.vec e ds k z)
theorem Kw.of_eq{x y:HB}(h:x=y):Kw x y:=h▸.refl _
def HB.under(k:Nat):HB→Prop
 | .box _ cs=>CV.under k cs
 | .EX _ cs _=>CV.under k cs
 | .JZ _ cs=>CV.under k cs
 |_=>True
def BF(k:Nat):Heap→Heap→Prop
 |[],_=>True
 |(i,x0)::H0,H=>(i<k∧x0.under k∧∃x,hget H i=some x∧Kw x x0)∧BF k H0 H
structure V8(L:Frame)(H:Heap)(nx:Nat)(L0:Frame)(H0:Heap)(CP:Nat):Prop where
 n:CP≤nx
 l:F5 CP L0 L
 h:BF CP H0 H
theorem F5.get{k:Nat}{L:Frame}:∀{L0:Frame},F5 k L0 L→∀i v0,Fv L0 i=some v0→v0.under k∧∃v,Fv L i=some v∧PLe v v0
 |[],_,_,_,h=>by cases h
 |(j,w)::L0,⟨h1,h2⟩,i,v0,h=>by
  rw[Ed] at h;by_cases e:j=i
  ·grind
  ·rw[if_neg e] at h;exact F5.get h2 i v0 h
theorem BF.get{k:Nat}{H:Heap}:∀{H0:Heap},BF k H0 H→∀i v0,hget H0 i=some v0→i<k∧v0.under k∧∃v,hget H i=some v∧Kw v v0
 |[],_,_,_,h=>by cases h
 |(j,w)::L0,⟨h1,h2⟩,i,v0,h=>by
  rw[Bv] at h;by_cases e:j=i
  ·grind
  ·rw[if_neg e] at h;exact BF.get h2 i v0 h
theorem Kw.tag{x y:HB}(h:Kw x y):x.tag=y.tag:=by
 cases h with
 |refl=>rfl
 |box=>rfl
 |vec _ a=>simp[HB.tag,a]
theorem BF.tag{k:Nat}{H H0:Heap}(h:BF k H0 H)(b:Nat)(t:Tg)(e:htag H0 b=some t):htag H b=some t:=by
 unfold htag at e ⊢;cases h0:hget H0 b with
 |none=>grind
 |some c =>
  obtain⟨_,_,x,d,a⟩:=h.get b c h0;rw[d,Option.map_some,a.tag];grind
theorem V8.own{L0:Frame}{H0:Heap}{CP:Nat}(h:V8 L H nx L0 H0 CP){σ:Nat→Value}{c:Nat}(d:Vm.own H0 σ c):Vm.own H σ c:=by
 obtain⟨b,x,f,e⟩:=d;obtain⟨_,_,y,a,_⟩:=h.h.get b x f;exact⟨b,y,a,e⟩
theorem V8.ctx{Γ:Nat→Option (List Value×TypeId)}{m:Mem}{F:Nat→Prop}{σ:Nat→Value}{L0:Frame}{H0:Heap}{CP:Nat}(h:V8 L H nx L0 H0 CP)(C:Ctx Γ m F σ H nx):Ctx Γ m F σ H0 CP where
 fr:=C.fr
 hp b x0 hb:=by
  obtain⟨M,B,x,K,J⟩:=h.h.get b x0 hb;refine⟨M,?_⟩;obtain⟨_,u⟩:=C.hp b x K;have G:=fun b t=>BF.tag h.h b t
  cases J with
  |refl =>
   cases x0 with
   |box e N=>obtain⟨c,s,f,d,a,p,k,j⟩:=u;exact⟨c,s,f,d,a,p,Dv.low G B k,j⟩
   |vec e N n z=>exact u
   |map W=>exact u
   |EX e N n=>obtain⟨c,g,s,f,d,a,p,k,j⟩:=u;exact⟨c,g,s,f,d,a,p,Dv.low G B k,j⟩
   |JZ V N=>obtain⟨r,l,A,f,d,a,p,k,j,P⟩:=u;exact⟨r,l,A,f,d,a,p,k,Dv.low G B j,P⟩
  |box q=>obtain⟨c,s,f,d,a,p,k,j⟩:=u;exact⟨c,s,f,d,a,p,Dv.low G B (Dv.le q k),j⟩
  |vec q U =>
   subst U;rcases u with⟨f,d,a⟩|⟨c,g,s,f,d,a,p,k,j⟩
   ·subst f
    cases q with|refl=>exact .inl ⟨rfl,d,a⟩
   ·exact .inr ⟨c,g,s,f,d,a,p,Dt.le q k,j⟩
 sep b b' x x' c M B K J:=by
  obtain⟨_,_,y,S,_⟩:=h.h.get b x M;obtain⟨_,_,O,I,_⟩:=h.h.get b' x' B;exact C.sep b b' y O c S I K J
 gl:=C.gl
theorem V8.rl{m:Mem}{F:Nat→Prop}{σ:Nat→Value}{L0:Frame}{H0:Heap}{CP:Nat}(h:V8 L H nx L0 H0 CP){t:Tr Value}(a:RL m F (htag H) σ nx L t):RL m F (htag H0) σ CP L0 t:=fun i v c=>by
 obtain⟨f,w,e,d⟩:=h.l.get i v c;exact RP.low (fun b t=>BF.tag h.h b t) f (RP.le d (a i w e))
theorem V8.step{B:Base}{m:Mem}{F:Nat→Prop}{σ:Nat→Value}{L0:Frame}{H0:Heap}{CP:Nat}(h:V8 L H nx L0 H0 CP)(d:B.nx≤CP)(a:B.to m F σ H nx):B.to m F σ H0 CP where
 size:=a.size
 keep:=a.keep
 KP:=a.KP
 KO:=a.KO
 JF c hc ho:=a.JF c hc (h.own ho)
 Xd:=d
 names b d:=by
  obtain⟨g,f⟩:=a.names b d;cases h0:htag H0 b with
  |none=>exact⟨trivial,fun _ _ e=>by cases e⟩
  |some t =>
   have:=BF.tag h.h b t h0;grind
 low:=a.low
end
section
open Go.Am
variable {E:Env}{bn:Nat}{L:Frame}{H:Heap}{nx:Nat}{Q:BH→Frame→Heap→Nat→Prop}
theorem Ad.weaken{c:Code}{L0:Frame}{H0:Heap}{CP:Nat}(g:bn≤CP)(a:V8 L H nx L0 H0 CP)(h:Ad E bn c L0 H0 CP Q):Ad E bn c L H nx Q :=
 fun B b m F σ t f e d=>h B b m F σ t (a.ctx f) (a.rl e) (a.step (by omega) d)
theorem Ad.loop{α:Type}{b:Code}(g:α→Frame)(d:α→Heap)(CP:Nat)(c:α→Prop)(μ:α→Nat)(f:α)(V:bn≤CP)(I:c f)(p:V8 L H nx (g f) (d f) CP)
 (x:∀a,c a→Ad E bn b (g a) (d a) CP fun e h H' nx'=>match e with| .normal=>∃a',c a'∧μ a'<μ a∧V8 h H' nx' (g a') (d a') CP| .ret=>Q .ret h H' nx'| .exit i=>Q (.exit i) h H' nx') :
 Ad E bn (.loop b) L H nx Q:=by
 intro B z m F σ t G C A;refine Nz.loop (fun n s=>∃a F σ,c a∧μ a=n∧Ctx E.Γ s.m F σ (d a) CP∧RL s.m F (htag (d a)) σ CP (g a) s.t∧B.to s.m F σ (d a) CP) (μ f) ⟨f,F,σ,I,rfl,p.ctx G,p.rl C,p.step (by omega) A⟩ ?_;rintro n s ⟨a,S,j,y,rfl,P,O,N⟩;refine(x a y B z s.m S j s.t P O N).mono ?_;rintro e U ⟨h,H',nx',F',σ',q,M,K,J⟩;cases e with
 |normal =>
  obtain⟨a',u,r,k⟩:=q;exact⟨_,r,a',F',σ',u,rfl,k.ctx M,k.rl K,k.step (by omega) J⟩
 |ret=>grind
 |exit i=>grind
section
variable {ops:Array Oper}{o:Oper}{l:List Oper}{i:Nat}{R:Frame→Heap→Nat→Prop}
theorem Aj.nil(h:R L H nx):Aj E bn ops [] L H nx R:=fun _ _ _ F σ _ c b a=>Vf.nil ⟨L,H,nx,F,σ,h,c,b,a⟩
theorem Ag.nil(h:R L H nx):Ag E bn ops i [] L H nx R:=fun _ _ _ F σ _ c b a=>Jd.nil ⟨L,H,nx,F,σ,h,c,b,a⟩
def Jz(ops:Array Oper)(L:Frame)(o:Oper)(w:Bool):Prop :=
 match o.guard with
 |none=>w=true
 |some (j,want)=>∃b d,(ops[j]?).bind (·.dst)=some d∧Fv L d=some (.p (.bool b))∧w=(b==want)
theorem Jz.wanted{Γ:Nat→Option (List Value×TypeId)}{m:Mem}{F:Nat→Prop}{σ:Nat→Value}{t:Tr Value}{w:Bool}(c:Ctx Γ m F σ H nx)(e:RL m F (htag H) σ nx L t)(h:Jz ops L o w):Region.wanted o (Eo ops t)=w:=by
 unfold Jz at h;unfold Region.wanted;split at h
 ·grind
 ·rename_i j a f
  obtain⟨b,d,q,p,k⟩:=h;have g:Cm t d=.bool b:=Iq (o:=.tmp d) c e p;rw[f];simp only[Eo,q,g,k];cases b<;>cases a<;>rfl
theorem Aj.cons(d:Jz ops L o true)(h:Aa E true o L H nx fun r H' nx'=>Aj E bn ops l (Ig L o.dst r) H' nx' R):Aj E bn ops (o::l) L H nx R:=by
 intro B e m F σ t b a f;refine Vf.cons (d.wanted b a) ((h m F σ t b a).mono ?_);rintro v m' ⟨r,H',nx',F',σ',q,j,g,c,_⟩;exact q B e m' F' σ' _ j ((a.step c b).put g) (f.trans c)
theorem Aj.skip(c:Jz ops L o false)(h:Aj E bn ops l (Ig L o.dst (.D5 [])) H nx R):Aj E bn ops (o::l) L H nx R:=by
 intro B d m F σ t b a e;refine Vf.skip (c.wanted b a) (h B d m F σ _ b (a.put ?_) e);exact .D5 .nil
theorem XL(m:Mem)(k:Nat)(F:Nat→Prop):∀c,F c→F c∧(m.at k).get c=m.get c :=by simp
theorem RL.at{Γ:Nat→Option (List Value×TypeId)}{m:Mem}{F:Nat→Prop}{T:Nat→Option Tg}{σ:Nat→Value}{t:Tr Value}(k:Nat)(h:RL m F T σ nx L t):RL (m.at k) F T σ nx L t :=
 fun i v a=>(h i v a).mono (XL m k F) (Names.refl _ _ _) (ab _)
theorem Ctx.at{Γ:Nat→Option (List Value×TypeId)}{m:Mem}{F:Nat→Prop}{σ:Nat→Value}(k:Nat)(h:Ctx Γ m F σ H nx):Ctx Γ (m.at k) F σ H nx where
 fr:=h.fr
 hp b x hb:=by
  obtain⟨C,u⟩:=h.hp b x hb;refine⟨C,?_⟩;cases x with
  |box e A=>obtain⟨c,y,s,q,p,j,f,d⟩:=u;exact⟨c,y,s,q,p,j,f.mono (XL m k F) (Names.refl _ _ _) (ab _),d⟩
  |vec e A n z =>
   rcases u with u|⟨c,g,y,s,q,p,j,f,d⟩
   ·exact .inl u
   ·exact .inr ⟨c,g,y,s,q,p,j,f.mono (XL m k F),d⟩
  |map I=>obtain⟨r,l,a,s,q,p,j,f,d⟩:=u;exact⟨r,l,a,s,q,p,j,f.mono (XL m k F),d.mono (XL m k F)⟩
  |EX e A n=>obtain⟨c,g,y,s,q,p,j,f,d⟩:=u;exact⟨c,g,y,s,q,p,j,f.mono (XL m k F) (Names.refl _ _ _) (ab _),d⟩
  |JZ G A=>obtain⟨r,l,a,s,q,p,j,f,d,B⟩:=u;exact⟨r,l,a,s,q,p,j,f.mono (XL m k F),d.mono (XL m k F) (Names.refl _ _ _) (ab _),B⟩
 sep:=h.sep
 gl:=h.gl
theorem Step.at{m m':Mem}{F F':Nat→Prop}{σ σ':Nat→Value}{H H':Heap}{nx nx':Nat}(h:Step (m.at m.size) F σ H nx m' F' σ' H' nx'):Step m F σ H nx (m'.at (min m.low m'.low)) F' σ' H' nx' where
 size:=h.size
 keep:=h.keep
 KP:=h.KP
 KO:=h.KO
 JF:=h.JF
 Xd:=h.Xd
 names:=h.names
 low k h1 h2 h3:=by
  have:=h.low k h2 h2 h3;simp only[Mem.b1i];omega
theorem Step.at0(m:Mem)(k:Nat)(F:Nat→Prop)(σ:Nat→Value)(H:Heap)(nx:Nat)(a:min m.low m.size≤k):Step m F σ H nx (m.at k) F σ H nx where
 size:=ab _
 keep _ _ _:=rfl
 KP _ h:=h
 KO _ _ h:=.inl h
 JF _ _ h:=h
 Xd:=ab _
 names:=Names.refl _ _ _
 low j h1 h2 _:=by simp only[Mem.b1i];omega
theorem Ag.cons{w:Bool}(d:Jz ops L o true)(p:barrier E.P ops i=w)(h:Aa E w o L H nx fun r H' nx'=>Ag E bn ops (i+1) l (Ig L o.dst r) H' nx' R):Ag E bn ops i (o::l) L H nx R:=by
 intro B e m F σ t b a f;refine Jd.cons (d.wanted b a) ((h (m.at m.size) F σ t (b.at _) (RL.at (Γ:=E.Γ) _ a)).mono ?_);rintro v m' ⟨r,H',nx',F',σ',q,k,j,c,g⟩;refine⟨?_,?_⟩
 ·cases w with
  |true=>grind
  |false=>exact .inr (.inl (g rfl m.size (ab _) (ab _)))
 ·refine q B e _ F' σ' _ (k.at _) (RL.at (Γ:=E.Γ) _ (((RL.at (Γ:=E.Γ) _ a).step c (b.at _)).put j)) (f.trans c.at)
theorem Ag.skip(c:Jz ops L o false)(h:Ag E bn ops (i+1) l (Ig L o.dst (.D5 [])) H nx R):Ag E bn ops i (o::l) L H nx R:=by
 intro B d m F σ t b a e;refine Jd.skip (c.wanted b a) (h B d _ F σ _ (b.at _) (RL.at (Γ:=E.Γ) _ (a.put (.D5 .nil))) (e.trans (Step.at0 _ _ _ _ _ _ (ab _))))
theorem Aj.split{j d:Nat}{a:Bool}{p:Prop}{_:Decidable p}(z:o.guard=some (j,a))(G:(ops[j]?).bind (·.dst)=some d)(q:Fv L d=some (.p (.bool (decide p))))
 (y:p→Aj E bn ops (o::l) ((d,.p (.bool true))::L) H nx R) (A:¬ p→Aj E bn ops (o::l) ((d,.p (.bool false))::L) H nx R):Aj E bn ops (o::l) L H nx R:=by
 have g:∀b,decide p=b→Aj E bn ops (o::l) ((d,.p (.bool b))::L) H nx R→Aj E bn ops (o::l) L H nx R:=by
  intro b C h B r m F σ t u f s;refine h B r m F σ t u (fun k x c=>?_) s;rw[Ed] at c;by_cases e:d=k
  ·rw[if_pos e] at c
   cases c;have:=f d _ q;grind
  ·rw[if_neg e] at c;exact f k x c
 by_cases h:p
 ·grind
 grind
theorem Ag.split{j d:Nat}{a:Bool}{p:Prop}{_:Decidable p}(z:o.guard=some (j,a))(G:(ops[j]?).bind (·.dst)=some d)(q:Fv L d=some (.p (.bool (decide p))))
 (y:p→Ag E bn ops i (o::l) ((d,.p (.bool true))::L) H nx R) (A:¬ p→Ag E bn ops i (o::l) ((d,.p (.bool false))::L) H nx R):Ag E bn ops i (o::l) L H nx R:=by
 have g:∀b,decide p=b→Ag E bn ops i (o::l) ((d,.p (.bool b))::L) H nx R→Ag E bn ops i (o::l) L H nx R:=by
  intro b C h B r m F σ t u f s;refine h B r m F σ t u (fun k x c=>?_) s;rw[Ed] at c;by_cases e:d=k
  ·rw[if_pos e] at c
   cases c;have:=f d _ q;grind
  ·rw[if_neg e] at c;exact f k x c
 by_cases h:p
 ·grind
 grind
end
def dF{α:Type}:Nat→List α→Option (List α)
 |0,_=>some []
 |_+1,[]=>none
 |n+1,a::l=>(dF n l).map (a::·)
def b2t:List PV→Option (List FV)
 |[]=>some []
 | .p x::l=>(b2t l).map (x::·)
 |_::_=>none
def uq(l:List PV):PV:=match b2t l with
 |some fs=>.p (.agg fs)
 |none=>.agg l
def jJ(P:Program)(t:TypeId)(cs:List FV):Option FV :=
 match Gz P t with
 |some false=>cs.head?
 |some true=>match P.info? t with
  |some i=>(dF i.size cs).map .agg
  |none=>none
 |none=>none
def uK(P:Program)(t:TypeId)(cs:List PV):Option PV :=
 match Gz P t with
 |some false=>cs.head?
 |some true=>match P.info? t with
  |some i=>(dF i.size cs).map uq
  |none=>none
 |none=>none
def kW(P:Program)(t:TypeId)(H:Heap):PV→Option PV
 | .p (.Fb cs)=>(jJ P t cs).map .p
 | .ref b off=>match hget H b with
  |some (.box _ cs)=>uK P t (cs.drop off)
  |_=>none
 | .E8 b tag off=>match hget H b with
  |some (.vec _ cs n _)=>match Nat.decEq tag n with
   | .isTrue _=>(jJ P t (cs.drop off)).map .p
   | .isFalse _=>none
  |_=>none
 |_=>none
theorem XE{m:Mem}{F:Nat→Prop}:∀{n:Nat} {cs:List FV} {ws:List Value} {l:List FV},Dt m F cs ws→dF n cs=some l→∃w,takeN n ws=some w∧Dt m F l w
 |0,_,_,_,_,h=>by cases h;exact⟨[],by rfl,.nil⟩
 |n+1,[],_,_,_,h=>by cases h
 |n+1,c::cs,_,l,.cons h t,hl=>by
  simp only[dF,Option.map_eq_some_iff] at hl;obtain⟨e,d,rfl⟩:=hl;obtain⟨w,b,a⟩:=XE t d;refine⟨_::w,?_,.cons h a⟩;unfold takeN at b ⊢;grind
section
variable {m:Mem}{F:Nat→Prop}{T:Nat→Option Tg}{σ:Nat→Value}{n':Nat}
theorem VX:∀{n:Nat} {cs:List PV} {ws:List Value} {l:List PV},Dv m F T σ n' cs ws→dF n cs=some l→∃w,takeN n ws=some w∧Dv m F T σ n' l w
 |0,_,_,_,_,h=>by cases h;exact⟨[],by rfl,.nil⟩
 |n+1,[],_,_,_,h=>by cases h
 |n+1,c::cs,_,l,.cons h t,hl=>by
  simp only[dF,Option.map_eq_some_iff] at hl;obtain⟨e,d,rfl⟩:=hl;obtain⟨w,b,a⟩:=VX t d;refine⟨_::w,?_,.cons h a⟩;unfold takeN at b ⊢;grind
theorem Dt.drop:∀{cs:List FV} {vs:List Value} (k:Nat),Dt m F cs vs→Dt m F (cs.drop k) (vs.drop k)
 |_,_,0,h=>h
 |_,_,_+1,.nil=>.nil
 |_,_,k+1,.cons _ t=>Dt.drop k t
theorem Dv.drop:∀{cs:List PV} {vs:List Value} (k:Nat),Dv m F T σ n' cs vs→Dv m F T σ n' (cs.drop k) (vs.drop k)
 |_,_,0,h=>h
 |_,_,_+1,.nil=>.nil
 |_,_,k+1,.cons _ t=>Dv.drop k t
theorem Z8:∀{l:List PV} {fs:List FV} {vs:List Value},b2t l=some fs→Dv m F T σ n' l vs→Dt m F fs vs
 |[],_,_,h,.nil=>by cases h;exact .nil
 | .p x::l,_,_,h,.cons a t=>by
  simp only[b2t,Option.map_eq_some_iff] at h;obtain⟨fs,b,rfl⟩:=h;cases a with
  |p a=>exact .cons a (Z8 b t)
 | .agg _::_,_,_,h,_=>by cases h
 | .D5 _::_,_,_,h,_=>by cases h
 | .vec ..::_,_,_,h,_=>by cases h
 | .ref ..::_,_,_,h,_=>by cases h
 | .E8 ..::_,_,_,h,_=>by cases h
 | .mref ..::_,_,_,h,_=>by cases h
 | .clo ..::_,_,_,h,_=>by cases h
theorem Xn{l:List PV}{vs:List Value}(h:Dv m F T σ n' l vs)(a:vs.all BK=true):RP m F T σ n' (uq l) (.agg vs.toArray):=by
 unfold uq;split
 ·rename_i c b
  exact .p (.agg (Z8 b h) a)
 ·exact .agg h a
end
theorem FK{k:Nat}{l w:List Value}(h:takeN k l=some w):w=l.take k∧k≤l.length:=by
 unfold takeN at h;grind
theorem Vw{l:List Value}(h:l.all BK=true)(k:Nat):(l.take k).all BK=true :=by grind
theorem KA{l:List Value}(h:l.all BK=true)(k:Nat):(l.drop k).all BK=true :=by grind
end
section
open Go.Am
variable {E:Env}{bn:Nat}{L:Frame}{H:Heap}{nx:Nat}
theorem uN{j k:Nat}{l ws w:List Value}(h:takeN k l=some ws)(a:takeN j ws=some w):takeN j l=some w:=by
 obtain⟨rfl,b⟩:=FK h;obtain⟨rfl,c⟩:=FK a;unfold takeN;grind
theorem b2k{m:Mem}{F:Nat→Prop}{cs:List FV}{ws:List Value}{x:FV}(h:Dt m F cs ws)(a:cs.head?=some x):∃v,takeN 1 ws=some [v]∧RF m F x v:=by
 cases h with
 |nil=>grind
 |cons h t=>cases a;exact⟨_,by rfl,h⟩
section
variable {m:Mem}{F:Nat→Prop}{T:Nat→Option Tg}{σ:Nat→Value}{n':Nat}
theorem a5i{cs:List PV}{ws:List Value}{x:PV}(h:Dv m F T σ n' cs ws)(a:cs.head?=some x):∃v,takeN 1 ws=some [v]∧RP m F T σ n' x v:=by
 cases h with
 |nil=>grind
 |cons h t=>cases a;exact⟨_,by rfl,h⟩
end
theorem iP{P:Program}{m:Mem}{F:Nat→Prop}{t:TypeId}{a:Addr}{cs:List FV}{vs ws:List Value}{e:TypeId}{g:Nat}{ro:Bool}{x:FV}(q:m.get a.block=.cells vs e g ro)(r:a.block<m.size)(s:NK a=g)
 (k:takeN cs.length (vs.drop a.off)=some ws) (h:Dt m F cs ws) (y:ws.all BK=true) (c:jJ P t cs=some x):∃v,NZ P t a m=some v∧RF m F x v:=by
 unfold jJ at c;unfold NZ;unfold aX;have j:∀n w,takeN n ws=some w→m.EC a n=some w:=by
  intro n w p;unfold Mem.EC;rw[q];simp only[s,if_true];exact uN k p
 cases hag:Gz P t with
 |none=>grind
 |some b =>
  rw[hag] at c;cases b with
  |false =>
   obtain⟨v,f,d⟩:=b2k h c;grind
  |true =>
   cases hi:P.info? t with
   |none=>grind
   |some i =>
    rw[hi] at c;simp only[Option.map_eq_some_iff] at c;obtain⟨l,f,rfl⟩:=c;obtain⟨w,d,u⟩:=XE h f;refine⟨.agg w.toArray,by grind,.agg u ?_⟩;rw[(FK d).1];grind
theorem jS{P:Program}{m:Mem}{F:Nat→Prop}{T:Nat→Option Tg}{σ:Nat→Value}{n':Nat}{t:TypeId}{a:Addr}{cs:List PV}{vs ws:List Value}{e:TypeId}{g:Nat}{ro:Bool}{x:PV}(s:m.get a.block=.cells vs e g ro)(k:a.block<m.size)(u:NK a=g)
 (q:vs.drop a.off=ws) (h:Dv m F T σ n' cs ws) (y:ws.all BK=true) (c:uK P t cs=some x):∃v,NZ P t a m=some v∧RP m F T σ n' x v:=by
 unfold uK at c;unfold NZ;unfold aX;have j:∀n w,takeN n ws=some w→m.EC a n=some w:=by
  intro n w r;unfold Mem.EC;grind
 cases hag:Gz P t with
 |none=>grind
 |some b =>
  rw[hag] at c;cases b with
  |false =>
   obtain⟨v,f,d⟩:=a5i h c;grind
  |true =>
   cases hi:P.info? t with
   |none=>grind
   |some i =>
    rw[hi] at c;simp only[Option.map_eq_some_iff] at c;obtain⟨l,f,rfl⟩:=c;obtain⟨w,d,p⟩:=VX h f;refine⟨.agg w.toArray,by grind,Xn p ?_⟩;rw[(FK d).1];grind
theorem jg{P:Program}{Γ:Nat→Option (List Value×TypeId)}{m:Mem}{F:Nat→Prop}{σ:Nat→Value}{t:TypeId}{a x:PV}{v:Value}(J:Ctx Γ m F σ H nx)(N:RP m F (htag H) σ nx a v)(f:kW P t H a=some x) :
 ∃p u,v=.pointer (some p)∧NZ P t p m=some u∧RP m F (htag H) σ nx x u:=by
 unfold kW at f;split at f
 ·simp only[Option.map_eq_some_iff] at f
  obtain⟨y,j,rfl⟩:=f;cases N with
  |p h =>
   cases h with
   |Fb Z X Y V h K =>
    obtain⟨u,C,B⟩:=iP (a:=⟨_,_,_⟩) X (J.fr _ Z) Y V h K j;exact⟨_,u,rfl,C,.p B⟩
 ·rename_i b d
  cases hb:hget H b with
  |none=>grind
  |some y =>
   rw[hb] at f;cases y with
   |box e cs =>
    obtain⟨_,c,O,A,s,q,I,r,G⟩:=J.hp b _ hb;cases N with
    |ref M K h =>
     obtain⟨c',j,C⟩:=h (by simp[htag,hb,HB.tag]);rw[A] at j;cases j;obtain⟨u,B,S⟩:=jS (a:=⟨c,d,none⟩) I s rfl rfl (Dv.drop d r) (KA G _) f;grind
   |vec e cs n z=>grind
   |map es=>grind
   |EX e cs n=>grind
   |JZ U cs=>grind
 ·rename_i b tag d
  cases hb:hget H b with
  |none=>grind
  |some y =>
   rw[hb] at f;cases y with
   |vec e cs n z =>
    simp only at f;split at f
    ·rename_i W _
     subst W;simp only[Option.map_eq_some_iff] at f;obtain⟨y,f,rfl⟩:=f;cases N with
     |E8 M K h =>
      obtain⟨_,h0⟩:=h tag (by simp[htag,hb,HB.tag]);obtain⟨c,k,g,j,C⟩:=h0 rfl;rcases(J.hp b _ hb).2 with⟨A,s,q⟩|⟨c',g',O,A,s,q,I,r,G,r7⟩
      ·rcases q with⟨q,_⟩|⟨_,_,_,q,_⟩<;>rw[q] at j<;>cases j
      ·rw[A] at j
       cases j;subst C;obtain⟨u,B,S⟩:=iP (a:=⟨c,d,some g⟩) (cs:=cs.drop d) (ws:=O.drop d) I s rfl (by simp only[takeN,List.length_drop,r.length];grind) (Dt.drop d r) (KA G _) f;exact⟨_,u,rfl,B,.p S⟩
    grind
   |box e cs=>grind
   |map es=>grind
   |EX e cs n=>grind
   |JZ U cs=>grind
 grind
def CG:Nat→List PV→Frame
 |_,[]=>[]
 |i,a::l=>(i,a)::CG (i+1) l
theorem Jk:∀(l:List PV) (k i:Nat) (v:PV),Fv (CG k l) i=some v→k≤i∧l[i-k]?=some v
 |[],_,_,_,h=>by cases h
 |a::l,k,i,v,h=>by
  simp only[CG,Ed] at h;by_cases e:k=i
  ·grind
  ·rw[if_neg e] at h
   obtain⟨c,b⟩:=Jk l (k+1) i v h;grind
theorem Dv.get{m:Mem}{F:Nat→Prop}{T:Nat→Option Tg}{σ:Nat→Value}{n':Nat}:∀{cs:List PV} {vs:List Value} {i:Nat} {c:PV},Dv m F T σ n' cs vs→cs[i]?=some c→∃v,vs[i]?=some v∧RP m F T σ n' c v
 |_,_,i,_,.nil,h=>by grind
 |_,_,0,_,.cons h _,hc=>by grind
 |_,_,i+1,c,.cons (cs:=cs) _ t,hc=>by
  have a:cs[i]?=some c:=by grind
  obtain⟨v,d,b⟩:=Dv.get t a;grind
theorem Dv.length{m:Mem}{F:Nat→Prop}{T:Nat→Option Tg}{σ:Nat→Value}{n':Nat}:∀{cs:List PV} {vs:List Value},Dv m F T σ n' cs vs→cs.length=vs.length
 |_,_,.nil=>rfl
 |_,_,.cons _ t=>by simp[t.length]
def Sl(P:Program)(L:Frame)(H:Heap):ResultVar→Option PV
 | .tmp t=>Fv L t
 | .cell a t=>match Fv L a with
  |some p=>kW P t H p
  |none=>none
def uw{α β:Type}(f:α→Option β):List α→Option (List β)
 |[]=>some []
 |a::l=>match f a with
  |some b=>match uw f l with
   |some r=>some (b::r)
   |none=>none
  |none=>none
def EI(P:Program)(rs:List ResultVar)(L:Frame)(H:Heap):Option PV :=
 match uw (Sl P L H) rs with
 |some [v]=>some v
 |some vs=>some (.D5 vs)
 |none=>none
theorem rO{P:Program}{Γ:Nat→Option (List Value×TypeId)}{m:Mem}{F:Nat→Prop}{σ:Nat→Value}{t:Tr Value}{r:ResultVar}{x:PV}(c:Ctx Γ m F σ H nx)(b:RL m F (htag H) σ nx L t)(h:Sl P L H r=some x) :
 ∃v,Kv P ⟨t,m⟩ r=some v∧RP m F (htag H) σ nx x v:=by
 cases r with
 |tmp i=>exact⟨_,rfl,b i x h⟩
 |cell a ty =>
  simp only[Sl] at h;cases ha:Fv L a with
  |none=>grind
  |some p =>
   rw[ha] at h;obtain⟨q,u,f,e,d⟩:=jg c (b a p ha) h;refine⟨u,?_,d⟩;simp only[Kv,f,e]
theorem Xp{P:Program}{Γ:Nat→Option (List Value×TypeId)}{m:Mem}{F:Nat→Prop}{σ:Nat→Value}{t:Tr Value}(a:Ctx Γ m F σ H nx)(b:RL m F (htag H) σ nx L t):∀{rs:List ResultVar} {xs:List PV},uw (Sl P L H) rs=some xs →
 ∃vs,Pn (Kv P ⟨t,m⟩) rs=some vs∧Dv m F (htag H) σ nx xs vs
 |[],_,h=>by cases h;exact⟨[],rfl,.nil⟩
 |r::rs,xs,h=>by
  simp only[uw] at h;cases h1:Sl P L H r with
  |none=>grind
  |some x =>
   rw[h1] at h;cases h2:uw (Sl P L H) rs with
   |none=>grind
   |some g =>
    rw[h2] at h;cases h;obtain⟨v,f,e⟩:=rO a b h1;obtain⟨vs,d,c⟩:=Xp a b h2;exact⟨v::vs,by simp only[Pn,f,d],.cons e c⟩
theorem KZ{P:Program}{Γ:Nat→Option (List Value×TypeId)}{m:Mem}{F:Nat→Prop}{σ:Nat→Value}{t:Tr Value}{fn:Func}{x:PV}(f:Ctx Γ m F σ H nx)(g:RL m F (htag H) σ nx L t)(h:EI P fn.results.toList L H=some x) :
 ∃v,Fj P fn ⟨t,m⟩=some v∧RP m F (htag H) σ nx x v:=by
 unfold EI at h;split at h
 ·rename_i r c
  cases h;obtain⟨e,d,a⟩:=Xp f g c;cases a with
  |cons k b =>
   cases b;exact⟨_,by simp only[Fj,d],k⟩
 ·rename_i _ p q c
  cases h;obtain⟨e,d,a⟩:=Xp f g c;refine⟨.tuple e.toArray,?_,.D5 a⟩;simp only[Fj,d];split
  ·rename_i j
   simp only[Option.some.injEq] at j;subst j;cases a with
   |cons k b=>cases b;grind
  ·grind
  grind
 grind
def Ret(bn:Nat)(Q:PV→Heap→Nat→Prop)(r0:PV)(H:Heap)(nx:Nat):Prop :=
 ∃r H0 CP,PLe r0 r∧r.under CP∧BF CP H0 H∧CP≤nx∧bn≤CP∧Q r H0 CP
def Done(P:Program)(rs:List ResultVar)(bn:Nat)(Q:PV→Heap→Nat→Prop)(e:BH)(L:Frame)(H:Heap)(nx:Nat):Prop :=
 match e with
 | .exit _=>False
 | .normal=>∃r,EI P rs L H=some r∧Ret bn Q r H nx
 | .ret=>∃r,EI P rs L H=some r∧Ret bn Q r H nx
theorem AL.enter{f:FuncId}{fn:Func}{c:Code}{args:List PV}{Q:PV→Heap→Nat→Prop}(V:E.O f=none)(X:E.P.funcs[f]?=some fn)(Y:fn.body=some c)(j:Ir E.G fn c=true)(hn:args.length≤fn.ntmps)
 (h:Ad E nx c (CG 0 args) H nx (Done E.P fn.results.toList nx Q)):AL E f args H nx Q:=by
 intro m F σ Bh Z y;refine GH.enter V X Y j (by rw[← y.length];omega) ((h ⟨m,F,σ,H,nx⟩ rfl m F σ _ Z ?_ (Step.refl _ _ _ _ _)).mono ?_)
 ·intro i v W
  obtain⟨_,k⟩:=Jk args 0 i v W;obtain⟨u,x,h5⟩:=y.get k;have:=Ho Bh 0 .leaf i;grind
 ·rintro e s ⟨A,d,nx',F',σ',q,z,c2,c3⟩
  have g:(∃r,EI E.P fn.results.toList A d=some r∧Ret nx Q r d nx')→∃v,Fj E.P fn s=some v∧∃r d nx' F' σ',Q r d nx'∧Ctx E.Γ s.m F' σ' d nx'∧RP s.m F' (htag d) σ' nx' r v∧Step m F σ H nx s.m F' σ' d nx':=by
   rintro⟨r0,U,r,C,I,S,N,p,M,K,J⟩;obtain⟨v,k,x⟩:=KZ z c2 U;have a:V8 A d nx' [] C I:=⟨M,trivial,p⟩
   exact⟨v,k,r,C,I,F',σ',J,a.ctx z,RP.low (fun b t=>BF.tag p b t) N (RP.le S x),a.step (B:=⟨m,F,σ,H,nx⟩) K c3⟩
  cases e with
  |exit i=>exact q.elim
  |normal=>exact g q
  |ret=>exact g q
end
section
open Go.Am
variable {E:Env}{L:Frame}{H:Heap}{nx:Nat}{Q:PV→Heap→Nat→Prop}{w:Bool}
theorem Aa.quiet{o:Oper}{r:PV}(q:Q r H nx)(h:∀m F σ t,Ctx E.Γ m F σ H nx→RL m F (htag H) σ nx L t→∃v,(∀call,BO E.P call (ev t) o m=some (v,m))∧RP m F (htag H) σ nx r v):Aa E w o L H nx Q :=
 fun m F σ t a e=>by
  obtain⟨v,d,c⟩:=h m F σ t a e;exact Gy.op d ⟨r,H,nx,F,σ,q,a,c,Step.refl _ _ _ _ _,fun _ k b _=>b⟩
section
variable {m:Mem}{F:Nat→Prop}{T:Nat→Option Tg}{σ:Nat→Value}{n:Nat}
theorem RF.cell{x:FV}{v:Value}(h:RF m F x v):(∃cs,x=.agg cs)∨BK v=true:=by
 cases h with
 |agg h a=>simp
 |val h=>exact .inr (by have:=Dl (l:=[_]) (by simpa using h);grind)
 |_=>exact .inr rfl
def Jt:PV→List PV
 | .p (.agg cs)=>cs.map .p
 | .agg cs=>cs
 |x=>[x]
def Uh:PV→Prop
 | .D5 _=>False
 |_=>True
theorem Dv.lC:∀{cs:List FV} {vs:List Value},Dt m F cs vs→Dv m F T σ n (cs.map .p) vs
 |_,_,.nil=>.nil
 |_,_,.cons h t=>.cons (.p h) (Dv.lC t)
theorem Dt.X7:∀{cs:List FV} {vs:List Value},Dv m F T σ n (cs.map .p) vs→Dt m F cs vs
 |[],_,.nil=>.nil
 |_::_,_,.cons (.p h) t=>.cons h (Dt.X7 t)
theorem cells_one{v:Value}(h:BK v=true):v.cells=#[v]:=by
 cases v<;>first|rfl|cases h
theorem LW{x:PV}{v:Value}(g:Uh x)(h:RP m F T σ n x v):Dv m F T σ n (Jt x) v.cells.toList∧v.cells.toList.all BK=true:=by
 cases h with
 |D5 h=>exact g.elim
 |agg h hc=>exact⟨h,hc⟩
 |p h =>
  rcases h.cell with⟨k,rfl⟩|hc
  ·cases h with|agg h hc=>exact⟨Dv.lC h,hc⟩
  ·rw[cells_one hc]
   refine⟨?_,by grind⟩;cases h<;>first|exact .cons (.p (by assumption)) .nil|skip
   ·exact .cons (.p (.int _ _)) .nil
   ·exact .cons (.p (.bool _)) .nil
   ·exact .cons (.p (.str _)) .nil
   ·rename_i h;exact .cons (.p (.val h)) .nil
   ·cases hc
   ·exact .cons (.p (.nil _)) .nil
   ·exact .cons (.p (.room _ _ _ _)) .nil
   ·rename_i c b f e d;exact .cons (.p (.lst c b f e d)) .nil
   ·rename_i c b f e d j;exact .cons (.p (.Fb c b f e d j)) .nil
   ·rename_i c b f e d;exact .cons (.p (.own c b f e d)) .nil
   ·exact .cons (.p (.TY _)) .nil
   ·exact .cons (.p (.RV _ _ _ _)) .nil
 |vec a hc h=>rw[cells_one hc];exact⟨.cons (.vec a hc h) .nil,by grind⟩
 |ref a hc h=>rw[cells_one hc];exact⟨.cons (.ref a hc h) .nil,by grind⟩
 |E8 a hc h=>rw[cells_one hc];exact⟨.cons (.E8 a hc h) .nil,by grind⟩
 |mref a hc h=>rw[cells_one hc];exact⟨.cons (.mref a hc h) .nil,by grind⟩
 |clo c b=>exact⟨.cons (.clo c b) .nil,rfl⟩
end
theorem JK(b:Nat)(x:HB)(H:Heap)(c:Nat):htag ((b,x)::H) c=if b=c then some x.tag else htag H c:=by
 unfold htag;rw[Bv];split<;>rfl
theorem Rz(H:Heap)(b c:Nat)(y:HB):htag (hput H b y) c=if b=c then(htag H b).map (fun _=>y.tag) else htag H c:=by
 unfold htag;rw[Fq];split
 ·cases hget H b<;>rfl
 ·rfl
theorem Ctx.a1e{Γ:Nat→Option (List Value×TypeId)}{m:Mem}{F:Nat→Prop}{σ:Nat→Value}(h:Ctx Γ m F σ H nx){b:Nat}(a:nx≤b):hget H b=none:=by
 cases hh:hget H b with
 |none=>rfl
 |some x=>have:=(h.hp b x hh).1;omega
def upd(σ:Nat→Value)(b:Nat)(v:Value):Nat→Value:=fun c=>if c=b then v else σ c
theorem upd_same(σ:Nat→Value)(b:Nat)(v:Value):upd σ b v b=v:=if_pos rfl
theorem CY(σ:Nat→Value){b c:Nat}(v:Value)(h:c≠b):upd σ b v c=σ c:=if_neg h
theorem RB.mono{m m':Mem}{F F':Nat→Prop}{T T':Nat→Option Tg}{σ σ':Nat→Value}{n n':Nat}{s:Value}{x:HB}(u:∀c,F c→F' c∧m'.get c=m.get c)(I:Names n T σ T' σ')(G:n≤n')
 (N:m.size≤m'.size) (A:∀c,Dp s=some c→m'.get c=m.get c∧¬ F' c) (h:RB m F T σ n s x):RB m' F' T' σ' n' s x:=by
 cases x with
 |box e J =>
  obtain⟨c,y,b,C,B,j,f,d⟩:=h;obtain⟨q,p⟩:=A c (by rw[b];rfl);exact⟨c,y,b,by omega,p,q.trans j,f.mono u I G,d⟩
 |vec e J k z =>
  rcases h with h|⟨c,g,y,b,C,B,j,f,d⟩
  ·exact .inl h
  ·obtain⟨q,p⟩:=A c (by rw[b];rfl)
   exact .inr ⟨c,g,y,b,by omega,p,q.trans j,f.mono u,d⟩
 |map O =>
  obtain⟨r,l,a,b,C,B,j,f,d⟩:=h;obtain⟨q,p⟩:=A r (by rw[b];rfl);exact⟨r,l,a,b,by omega,p,q.trans j,f.mono u,d.mono u⟩
 |EX e J k =>
  obtain⟨c,g,y,b,C,B,j,f,d⟩:=h;obtain⟨q,p⟩:=A c (by rw[b];rfl);exact⟨c,g,y,b,by omega,p,q.trans j,f.mono u I G,d⟩
 |JZ M J =>
  obtain⟨r,l,a,b,C,B,j,f,d,K⟩:=h;obtain⟨q,p⟩:=A r (by rw[b];rfl);exact⟨r,l,a,b,by omega,p,q.trans j,f.mono u,d.mono u I G,K⟩
theorem kZ{Γ:Nat→Option (List Value×TypeId)}{m:Mem}{F:Nat→Prop}{σ:Nat→Value}(x:HB)(s:Value):Names nx (htag H) σ (htag ((nx,x)::H)) (upd σ nx s):=fun b a=>by
 rw[JK,if_neg (by omega),CY _ _ (by omega)];exact⟨Xq.refl _,fun _ _ _=>rfl⟩
theorem Ctx.new{Γ:Nat→Option (List Value×TypeId)}{m m':Mem}{F:Nat→Prop}{σ:Nat→Value}{x:HB}{s:Value}(h:Ctx Γ m F σ H nx)(q:m.size≤m'.size)(a:∀c,c<m.size→m'.get c=m.get c)(I:min m.low m.size≤m'.low)
 (N:∀c,Dp s=some c→m.size≤c) (O:RB m' F (htag ((nx,x)::H)) (upd σ nx s) (nx+1) s x) :
 Ctx Γ m' F (upd σ nx s) ((nx,x)::H) (nx+1)∧Step m F σ H nx m' F (upd σ nx s) ((nx,x)::H) (nx+1)∧Quiet m m':=by
 have B:∀c,F c→F c∧m'.get c=m.get c:=fun c f=>⟨f,a c (h.fr c f)⟩
 have J:=kZ (Γ:=Γ) (m:=m) (F:=F) (σ:=σ) (H:=H) (nx:=nx) x s;refine⟨⟨fun c f=>ag (h.fr c f) q,?_,?_,?_⟩,⟨q,fun c f _=>a c f,fun _ h=>h,fun _ _ h=>.inl h,?_,cL _,J,?_⟩,?_⟩
 ·intro b y d
  rw[Bv] at d;by_cases e:nx=b
  ·rw[if_pos e] at d;cases d;subst e
   rw[upd_same];grind
  ·rw[if_neg e] at d
   obtain⟨p,j⟩:=h.hp b y d;rw[CY _ _ (Ne.symm e)];refine⟨by omega,j.mono B J (cL _) q fun c f=>?_⟩;have:=h.MB ⟨b,y,d,f⟩;grind
 ·intro b C y G c p j u z
  rw[Bv] at p j;by_cases e:nx=b<;>by_cases A:nx=C
  ·omega
  ·subst e
   rw[if_neg A] at j;rw[upd_same] at u;rw[CY _ _ (Ne.symm A)] at z;have:=(h.MB ⟨C,G,j,z⟩).2;grind
  ·subst A
   rw[if_neg e] at p;rw[upd_same] at z;rw[CY _ _ (Ne.symm e)] at u;have:=(h.MB ⟨b,y,p,u⟩).2;grind
  ·rw[if_neg e] at p
   rw[if_neg A] at j;rw[CY _ _ (Ne.symm e)] at u;rw[CY _ _ (Ne.symm A)] at z;exact h.sep b C y G c p j u z
 ·intro g K e M
  obtain⟨p,j,u⟩:=h.gl g K e M;grind
 ·rintro c f ⟨b,y,d,r⟩
  rw[Bv] at d;by_cases e:nx=b
  ·subst e
   rw[upd_same] at r;grind
  ·rw[if_neg e] at d
   rw[CY _ _ (Ne.symm e)] at r;exact⟨b,y,d,r⟩
 ·omega
 ·intro k p j;omega
theorem EJ{b0:Nat}{x0 x':HB}{σ:Nat→Value}{s':Value}(a:hget H b0=some x0)(d:Xq (some x0.tag) (some x'.tag))(f:x0.tag=x'.tag→s'=σ b0) :
 Names nx (htag H) σ (htag (hput H b0 x')) (upd σ b0 s'):=fun b _=>by
 rw[Rz];by_cases e:b0=b
 ·subst e
  have c:htag H b0=some x0.tag:=by simp[htag,a]
  rw[if_pos rfl,c,upd_same];grind
 ·rw[if_neg e,CY _ _ (Ne.symm e)]
  exact⟨Xq.refl _,fun _ _ _=>rfl⟩
theorem Ctx.change{Γ:Nat→Option (List Value×TypeId)}{m m':Mem}{F:Nat→Prop}{σ:Nat→Value}{b0:Nat}{x0 x':HB}{s':Value}(h:Ctx Γ m F σ H nx)(A:hget H b0=some x0)(P:Xq (some x0.tag) (some x'.tag))(S:x0.tag=x'.tag→s'=σ b0)
 (x:m.size≤m'.size) (a:∀c,c<m.size→Dp (σ b0)≠some c→m'.get c=m.get c) (M:∀k,k≤m.low→k≤m.size→(∀c,Dp (σ b0)=some c→k≤c)→k≤m'.low)
 (q:∀c,Dp s'=some c→Dp (σ b0)=some c∨m.size≤c) (U:RB m' F (htag (hput H b0 x')) (upd σ b0 s') nx s' x') :
 Ctx Γ m' F (upd σ b0 s') (hput H b0 x') nx∧Step m F σ H nx m' F (upd σ b0 s') (hput H b0 x') nx:=by
 have p:∀c,Dp (σ b0)=some c→own H σ c:=fun c f=>⟨b0,x0,A,f⟩
 have K:∀c,F c→F c∧m'.get c=m.get c:=fun c f=>⟨f,a c (h.fr c f) fun e=>(h.MB (p c e)).1 f⟩
 have N:Names nx (htag H) σ (htag (hput H b0 x')) (upd σ b0 s'):=EJ A P S;have J:hget (hput H b0 x') b0=some x':=by rw[Fq,if_pos rfl,A];rfl
 have d:∀b,b≠b0→hget (hput H b0 x') b=hget H b:=fun b e=>by rw[Fq,if_neg (Ne.symm e)]
 refine⟨⟨fun c f=>ag (h.fr c f) x,?_,?_,?_⟩,⟨x,fun c f V=>a c f fun e=>V (p c e),fun _ h=>h,fun _ _ h=>.inl h,?_,ab _,N,?_⟩⟩
 ·intro b y j
  by_cases e:b=b0
  ·subst e
   rw[J] at j;cases j;rw[upd_same];exact⟨(h.hp b x0 A).1,U⟩
  ·rw[d b e] at j
   obtain⟨u,s⟩:=h.hp b y j;rw[CY _ _ e];refine⟨u,s.mono K N (ab _) x fun c f=>?_⟩;have:=h.MB ⟨b,y,j,f⟩;exact⟨a c this.2 fun C=>e (h.sep b b0 y x0 c j A f C),this.1⟩
 ·intro b G y I c u s r B
  by_cases e:b=b0<;>by_cases C:G=b0
  ·omega
  ·subst e
   rw[d G C] at s;rw[upd_same] at r;rw[CY _ _ C] at B;rcases q c r with h5|h5
   ·exact h.sep b G x0 I c A s h5 B
   ·have:=(h.MB ⟨G,I,s,B⟩).2;omega
  ·subst C
   rw[d b e] at u;rw[upd_same] at B;rw[CY _ _ e] at r;rcases q c B with h5|h5
   ·exact h.sep b G y x0 c u A r h5
   ·have:=(h.MB ⟨b,y,u,r⟩).2;omega
  ·rw[d b e] at u
   rw[d G C] at s;rw[CY _ _ e] at r;rw[CY _ _ C] at B;exact h.sep b G y I c u s r B
 ·intro g O e W
  obtain⟨u,s,r⟩:=h.gl g O e W;grind
 ·rintro c f ⟨b,y,j,z⟩
  by_cases e:b=b0
  ·subst e
   rw[upd_same] at z;grind
  ·rw[d b e] at j
   rw[CY _ _ e] at z;exact⟨b,y,j,z⟩
 grind
def Dh{α:Type}(cs:List α):Nat→List α→List α
 |_,[]=>cs
 |o,v::l=>Dh (cs.set o v) (o+1) l
section
variable {m:Mem}{F:Nat→Prop}{T:Nat→Option Tg}{σ:Nat→Value}{n:Nat}
theorem Dv.set:∀{cs:List PV} {vs:List Value} (i:Nat) {x:PV} {v:Value},Dv m F T σ n cs vs→RP m F T σ n x v→Dv m F T σ n (cs.set i x) (vs.set i v)
 |_,_,_,_,_,.nil,_=>.nil
 |_,_,0,_,_,.cons _ t,h=>.cons h t
 |_,_,i+1,_,_,.cons h t,h'=>.cons h (Dv.set i t h')
theorem Dt.set:∀{cs:List FV} {vs:List Value} (i:Nat) {x:FV} {v:Value},Dt m F cs vs→RF m F x v→Dt m F (cs.set i x) (vs.set i v)
 |_,_,_,_,_,.nil,_=>.nil
 |_,_,0,_,_,.cons _ t,h=>.cons h t
 |_,_,i+1,_,_,.cons h t,h'=>.cons h (Dt.set i t h')
theorem Dv.splice:∀{l:List PV} {ws:List Value} {cs:List PV} {vs:List Value} (o:Nat),Dv m F T σ n cs vs→Dv m F T σ n l ws→Dv m F T σ n (Dh cs o l) (splice vs o ws)
 |_,_,_,_,_,h,.nil=>h
 |_,_,_,_,o,h,.cons h1 t=>Dv.splice (o+1) (h.set o h1) t
theorem Dt.splice:∀{l:List FV} {ws:List Value} {cs:List FV} {vs:List Value} (o:Nat),Dt m F cs vs→Dt m F l ws→Dt m F (Dh cs o l) (splice vs o ws)
 |_,_,_,_,_,h,.nil=>h
 |_,_,_,_,o,h,.cons h1 t=>Dt.splice (o+1) (h.set o h1) t
theorem Dt.append:∀{cs ds:List FV} {vs ws:List Value},Dt m F cs vs→Dt m F ds ws→Dt m F (cs++ds) (vs++ws)
 |_,_,_,_,.nil,h=>h
 |_,_,_,_,.cons h t,h'=>.cons h (Dt.append t h')
end
theorem b6w{l:List Value}(h:l.all BK=true){v:Value}(a:BK v=true)(i:Nat):(l.set i v).all BK=true :=by grind
theorem J4:∀{ws l:List Value} (o:Nat),l.all BK=true→ws.all BK=true→(splice l o ws).all BK=true
 |[],_,_,h,_=>h
 |v::ws,l,o,h,hw=>by
  simp only[List.all_cons,Bool.and_eq_true] at hw;exact J4 (o+1) (b6w h hw.1 o) hw.2
end
section
open Go.Am
variable {E:Env}{L:Frame}{H:Heap}{nx:Nat}{Q:PV→Heap→Nat→Prop}{w:Bool}
variable {dst:Option Tmp}{ty:TypeId}{pos:String}{af:Array Edge}{gd:Option (Nat×Bool)}
theorem Aa.move{x:Operand}{r:PV}(h:AU E.Γ L x=some r)(q:Q r H nx):Aa E w ⟨dst,.move x,ty,pos,af,gd⟩ L H nx Q :=
 Aa.quiet q fun _ _ _ _ b a=>⟨_,fun _=>rfl,Bz b a h⟩
theorem Aa.assign{x:Operand}{r:PV}(h:AU E.Γ L x=some r)(q:Q r H nx):Aa E w ⟨dst,.assign x,ty,pos,af,gd⟩ L H nx Q :=
 Aa.quiet q fun _ _ _ _ b a=>⟨_,fun _=>rfl,Bz b a h⟩
theorem Aa.Og{c a b:Operand}{r:PV}(f:AU E.Γ L c=some (.p (.bool true)))(h:AU E.Γ L a=some r)(q:Q r H nx):Aa E w ⟨dst,.pick c a b,ty,pos,af,gd⟩ L H nx Q :=
 Aa.quiet q fun m _ _ t e d=>⟨ev t a,fun _=>by simp only[BO,FI,Iq e d f,if_true],Bz e d h⟩
theorem Aa.Ux{c a b:Operand}{r:PV}(f:AU E.Γ L c=some (.p (.bool false)))(h:AU E.Γ L b=some r)(q:Q r H nx):Aa E w ⟨dst,.pick c a b,ty,pos,af,gd⟩ L H nx Q :=
 Aa.quiet q fun m _ _ t e d=>⟨ev t b,fun _=>by simp only[BO,FI,Iq e d f,Bool.false_eq_true,if_false],Bz e d h⟩
theorem CQ{Γ:Nat→Option (List Value×TypeId)}{m:Mem}{F:Nat→Prop}{σ:Nat→Value}{t:Tr Value}{k:IntKind}{n:Int}{o:Operand}(a:Ctx Γ m F σ H nx)(b:RL m F (htag H) σ nx L t)(h:AU Γ L o=some (.p (.int k n))):ev t o=.int k n:=by
 have:=Bz a b h;generalize ev t o=v at this;cases this with|p h=>cases h;rfl
theorem Nh{Γ:Nat→Option (List Value×TypeId)}{m:Mem}{F:Nat→Prop}{σ:Nat→Value}{t:Tr Value}{s:ByteArray}{o:Operand}(a:Ctx Γ m F σ H nx)(b:RL m F (htag H) σ nx L t)(h:AU Γ L o=some (.p (.str s))):ev t o=.string s:=by
 have:=Bz a b h;generalize ev t o=v at this;cases this with|p h=>cases h;rfl
def SE(op:BinOp)(k:IntKind)(x y:Int):Option FV :=
 match op with
 | .add=>some (.int k (k.wrap (x+y)))
 | .sub=>some (.int k (k.wrap (x-y)))
 | .mul=>some (.int k (k.wrap (x*y)))
 | .eql=>some (.bool (decide (x=y)))
 | .neq=>some (.bool (decide (x≠y)))
 | .lss=>some (.bool (decide (x<y)))
 | .leq=>some (.bool (decide (x≤y)))
 | .gtr=>some (.bool (decide (x>y)))
 | .geq=>some (.bool (decide (x≥y)))
 | .quo=>if y=0 then none else some (.int k (k.wrap (x.tdiv y)))
 | .rem=>if y=0 then none else some (.int k (x.tmod y))
 | .and=>some (.int k (k.wrap (BitVec.ofInt k.bits x &&& BitVec.ofInt k.bits y).toNat))
 | .or=>some (.int k (k.wrap (BitVec.ofInt k.bits x ||| BitVec.ofInt k.bits y).toNat))
 | .xor=>some (.int k (k.wrap (BitVec.ofInt k.bits x ^^^ BitVec.ofInt k.bits y).toNat))
 | .andNot=>some (.int k (k.wrap (BitVec.ofInt k.bits x &&& ~~~ BitVec.ofInt k.bits y).toNat))
 |_=>none
theorem a8a{m:Mem}{F:Nat→Prop}{op:BinOp}{k:IntKind}{x y:Int}{r:FV}(h:SE op k x y=some r):∃v,b1j op k x y=some v∧RF m F r v∧op≠.shl∧op≠.shr:=by
 have c:(x==y)=decide (x=y):=eh.2 (by simp);have b:(x != y)=decide (x≠y):=eh.2 (by simp);cases op<;>simp only[SE,b1j,c,b] at h ⊢<;>first
  |(cases h;done)
  |(cases h;exact⟨_,rfl,.int _ _,by simp,by simp⟩)
  |(cases h;exact⟨_,rfl,.bool _,by simp,by simp⟩)
  |(split at h
    ·cases h
    ·rename_i a;cases h;exact⟨_,by rw[if_neg a],.int _ _,by simp,by simp⟩)
theorem Aa.int{op:BinOp}{t f:TypeId}{x y:Operand}{k:IntKind}{a b:Int}{r:FV}(j:AU E.Γ L x=some (.p (.int k a)))(g:AU E.Γ L y=some (.p (.int k b)))(h:SE op k a b=some r)(q:Q (.p r) H nx) :
 Aa E w ⟨dst,.binOp op t x y f,ty,pos,af,gd⟩ L H nx Q :=
 Aa.quiet q fun m F σ B d c=>by
  obtain⟨v,A,z,u,s⟩:=a8a (m:=m) (F:=F) h;refine⟨v,fun _=>?_,.p z⟩;have e:P8 E.P op t x y (.int k a) (.int k b)=some v:=by
   rw[← A];cases op<;>first|exact absurd rfl u|exact absurd rfl s|simp only[P8,if_true]
  simp only[BO,FI,CQ d c j,CQ d c g,e,Option.map_some]
theorem wrap_i64{n:Int}(h:-9223372036854775808≤n∧n<9223372036854775808):IntKind.i64.wrap n=n:=by
 have e:IntKind.i64.wrap n=(n+2^63)%2^64-2^63:=by
  simp[IntKind.wrap,IntKind.signed,IntKind.bits];omega
 omega
theorem Aa.MH{t c:TypeId}{x y:Operand}{a b:Int}(e:AU E.Γ L x=some (.p (.int .i64 a)))(d:AU E.Γ L y=some (.p (.int .i64 b)))(h:-9223372036854775808≤a+b∧a+b<9223372036854775808)(q:Q (.p (.int .i64 (a+b))) H nx) :
 Aa E w ⟨dst,.binOp .add t x y c,ty,pos,af,gd⟩ L H nx Q:=Aa.int e d (r:=.int .i64 (a+b)) (by simp only[SE,wrap_i64 h]) q
theorem Aa.tK{t c:TypeId}{x y:Operand}{a b:Int}(e:AU E.Γ L x=some (.p (.int .i64 a)))(d:AU E.Γ L y=some (.p (.int .i64 b)))(h:-9223372036854775808≤a-b∧a-b<9223372036854775808)(q:Q (.p (.int .i64 (a-b))) H nx) :
 Aa E w ⟨dst,.binOp .sub t x y c,ty,pos,af,gd⟩ L H nx Q:=Aa.int e d (r:=.int .i64 (a-b)) (by simp only[SE,wrap_i64 h]) q
theorem Aa.b0x{t c:TypeId}{x y:Operand}{a b:Int}(e:AU E.Γ L x=some (.p (.int .i64 a)))(d:AU E.Γ L y=some (.p (.int .i64 b)))(h:-9223372036854775808≤a*b∧a*b<9223372036854775808)(q:Q (.p (.int .i64 (a*b))) H nx) :
 Aa E w ⟨dst,.binOp .mul t x y c,ty,pos,af,gd⟩ L H nx Q:=Aa.int e d (r:=.int .i64 (a*b)) (by simp only[SE,wrap_i64 h]) q
theorem Aa.shift{op:BinOp}{t s:TypeId}{x y:Operand}{k k':IntKind}{a b:Int}{r:FV}(f:op=.shl∨op=.shr)(h:AU E.Γ L x=some (.p (.int k a)))(g:AU E.Γ L y=some (.p (.int k' b)))(z:0≤b)
 (j:r=if op=.shl then .int k (k.wrap (a*2^(min b.toNat k.bits))) else .int k (a.fdiv (2^(min b.toNat k.bits)))) (q:Q (.p r) H nx) :
 Aa E w ⟨dst,.binOp op t x y s,ty,pos,af,gd⟩ L H nx Q :=
 Aa.quiet q fun m F σ u e d=>by
  have c:¬ b<0:=by omega
  rcases f with rfl|rfl
  ·refine⟨.int k (k.wrap (a*2^(min b.toNat k.bits))),fun _=>?_,by rw[j];exact .p (.int _ _)⟩
   simp only[BO,FI,CQ e d h,CQ e d g,P8,aQ,if_neg c,Option.map_some]
  ·refine⟨.int k (a.fdiv (2^(min b.toNat k.bits))),fun _=>?_,by rw[j];exact .p (.int _ _)⟩
   simp only[BO,FI,CQ e d h,CQ e d g,P8,aQ,if_neg c,Option.map_some]
theorem Aa.shl{t c:TypeId}{x y:Operand}{k k':IntKind}{a b:Int}(e:AU E.Γ L x=some (.p (.int k a)))(d:AU E.Γ L y=some (.p (.int k' b)))(f:0≤b)(q:Q (.p (.int k (k.wrap (a*2^(min b.toNat k.bits))))) H nx) :
 Aa E w ⟨dst,.binOp .shl t x y c,ty,pos,af,gd⟩ L H nx Q:=Aa.shift (.inl rfl) e d f rfl q
theorem Aa.shr{t c:TypeId}{x y:Operand}{k k':IntKind}{a b:Int}(e:AU E.Γ L x=some (.p (.int k a)))(d:AU E.Γ L y=some (.p (.int k' b)))(f:0≤b)(q:Q (.p (.int k (a.fdiv (2^(min b.toNat k.bits))))) H nx) :
 Aa E w ⟨dst,.binOp .shr t x y c,ty,pos,af,gd⟩ L H nx Q:=Aa.shift (.inr rfl) e d f rfl q
theorem KX{P:Program}{s:Sem Value}{v:Value}(h:Dz P s=some v)(a:plain v=true):YW P s=some v:=by
 simp only[YW,h,a,if_true]
def sF:TypeDesc→Bool
 | .slice _=>false
 |_=>true
theorem Aa.Zv{s d:TypeId}{x:Operand}{k k':IntKind}{n:Int}{a:TypeDesc}(g:AU E.Γ L x=some (.p (.int k' n)))(e:E.P.underlying s=some a)(c:sF a=true)(f:E.P.underlying d=some (.int k))(q:Q (.p (.int k (k.wrap n))) H nx) :
 Aa E w ⟨dst,.convert s d x,ty,pos,af,gd⟩ L H nx Q :=
 Aa.quiet q fun m F σ r j h=>by
  refine⟨.int k (k.wrap n),fun _=>?_,.p (.int _ _)⟩;have:Dz E.P (convert s d (.int k' n))=some (.int k (k.wrap n)):=by
   unfold convert;simp only[Ar,AX,e,f,Option.bind_some];cases a<;>rfl
  have b:(JE E.P s||JE E.P d)=false:=by
   simp only[JE,e,f];cases a<;>first|rfl|cases c
  simp only[BO,FI,CQ j h g,KX this rfl,Option.map_some,b];rfl
theorem Aa.extract{t:Operand}{i:Nat}{vs:List PV}{r:PV}(h:AU E.Γ L t=some (.D5 vs))(c:vs[i]?=some r)(q:Q r H nx):Aa E w ⟨dst,.extract t i,ty,pos,af,gd⟩ L H nx Q :=
 Aa.quiet q fun m F σ b g f=>by
  have:=Bz g f h;generalize hv:ev b t=v at this;cases this with
  |D5 a =>
   obtain⟨u,e,d⟩:=a.get c;refine⟨u,fun _=>?_,d⟩;simp only[BO,FI,hv,Instr.extract,List.getElem?_toArray,e];rfl
def VK(P:Program)(s:TypeId)(f:Nat):Option Nat :=
 match P.underlying s with
 |some (.struct fs)=>match fs[f]? with
  |some fd=>match P.info? fd.type with
   |some i=>if i.size=0 then none else some fd.offset
   |none=>none
  |none=>none
 |_=>none
theorem TA{P:Program}{ρ:Operand→Value}{s:TypeId}{f k:Nat}{x:Operand}{a:Addr}{m:Mem}(h:VK P s f=some k)(b:ρ x=.pointer (some a)) :
 FI P ρ ⟨dst,.fieldAddr s x f,ty,pos,af,gd⟩ m=some (.pointer (some { a with off:=a.off+k }),m):=by
 unfold VK at h;simp only[FI,b];grind
theorem OU{n k:Nat}{l ws:List Value}(h:takeN n l=some ws):takeN (n-k) (l.drop k)=some (ws.drop k):=by
 obtain⟨rfl,a⟩:=FK h;unfold takeN;rw[bA,if_pos (by omega),List.drop_take]
theorem RF.a5u{m:Mem}{F:Nat→Prop}{cs:List FV}{a:Addr}(k:Nat)(h:RF m F (.Fb cs) (.pointer (some a))):RF m F (.Fb (cs.drop k)) (.pointer (some { a with off:=a.off+k })):=by
 cases h with
 |Fb f c d b h e =>
  refine .Fb f c d (ws:=_) ?_ (Dt.drop k h) (KA e k);have:=OU (k:=k) b;simp_all
theorem ZE{Γ:Nat→Option (List Value×TypeId)}{m:Mem}{F:Nat→Prop}{σ:Nat→Value}{t:Tr Value}{cs:List FV}{o:Operand}(b:Ctx Γ m F σ H nx)(c:RL m F (htag H) σ nx L t)(h:AU Γ L o=some (.p (.Fb cs))) :
 ∃a,ev t o=.pointer (some a)∧RF m F (.Fb cs) (.pointer (some a)):=by
 have:=Bz b c h;generalize ev t o=v at this;cases this with
 |p h =>
  cases h with
  |Fb k j g f e d=>exact⟨_,rfl,.Fb k j g f e d⟩
theorem Y9{Γ:Nat→Option (List Value×TypeId)}{m:Mem}{F:Nat→Prop}{σ:Nat→Value}{t:Tr Value}{b off:Nat}{o:Operand}{e:TypeId}{cs:List PV}(a:Ctx Γ m F σ H nx)(d:RL m F (htag H) σ nx L t)(h:AU Γ L o=some (.ref b off))(f:hget H b=some (.box e cs)) :
 ∃c,ev t o=.pointer (some ⟨c,off,none⟩)∧σ b=.pointer (some ⟨c,0,none⟩):=by
 have:=Bz a d h;cases this with
 |ref q p g =>
  obtain⟨c,k,j⟩:=g (by simp[htag,f,HB.tag]);grind
theorem rD{Γ:Nat→Option (List Value×TypeId)}{m:Mem}{F:Nat→Prop}{σ:Nat→Value}{t:Tr Value}{b tag off:Nat}{o:Operand}{e:TypeId}{cs:List FV}{z:Bool}(a:Ctx Γ m F σ H nx)(d:RL m F (htag H) σ nx L t)(h:AU Γ L o=some (.E8 b tag off))(f:hget H b=some (.vec e cs tag z)) :
 ∃c k g,ev t o=.pointer (some ⟨c,off,some g⟩)∧σ b=.slice (some ⟨c,0,none⟩) k g:=by
 have:=Bz a d h;cases this with
 |E8 r q j =>
  obtain⟨_,p⟩:=j tag (by simp[htag,f,HB.tag]);grind
theorem Aa.ZV{s:TypeId}{x:Operand}{f k:Nat}{cs:List FV}(b:AU E.Γ L x=some (.p (.Fb cs)))(c:VK E.P s f=some k)(q:Q (.p (.Fb (cs.drop k))) H nx):Aa E w ⟨dst,.fieldAddr s x f,ty,pos,af,gd⟩ L H nx Q :=
 Aa.quiet q fun m F σ j h g=>by
  obtain⟨a,e,d⟩:=ZE h g b;exact⟨_,fun _=>TA (dst:=dst) (ty:=ty) (pos:=pos) (af:=af) (gd:=gd) c e,.p (d.a5u k)⟩
theorem Aa.HY{s:TypeId}{x:Operand}{f k b off:Nat}{e:TypeId}{cs:List PV}(g:AU E.Γ L x=some (.ref b off))(a:hget H b=some (.box e cs))(h:VK E.P s f=some k)(q:Q (.ref b (off+k)) H nx):Aa E w ⟨dst,.fieldAddr s x f,ty,pos,af,gd⟩ L H nx Q :=
 Aa.quiet q fun m F σ u d r=>by
  obtain⟨c,p,j⟩:=Y9 d r g a;exact⟨_,fun _=>TA (dst:=dst) (ty:=ty) (pos:=pos) (af:=af) (gd:=gd) h p,.ref (d.hp b _ a).1 rfl fun _=>⟨c,j,rfl⟩⟩
theorem Aa.load{t:TypeId}{a:Operand}{x r:PV}(c:AU E.Γ L a=some x)(h:kW E.P t H x=some r)(q:Q r H nx):Aa E w ⟨dst,.load t a,ty,pos,af,gd⟩ L H nx Q :=
 Aa.quiet q fun m F σ j b g=>by
  obtain⟨p,u,f,e,d⟩:=jg b (Bz b g c) h;exact⟨u,fun _=>by simp only[BO,FI,f,e,Option.map_some],d⟩
theorem Aa.c6k{t:TypeId}{a:Operand}{b tag off:Nat}{e:TypeId}{cs:List FV}{z:Bool}{r:FV}(d:AU E.Γ L a=some (.E8 b tag off))(c:hget H b=some (.vec e cs tag z))(h:jJ E.P t (cs.drop off)=some r)(q:Q (.p r) H nx) :
 Aa E w ⟨dst,.load t a,ty,pos,af,gd⟩ L H nx Q:=by
 refine Aa.load d ?_ q;simp only[kW,c];split
 ·grind
 omega
def elemSize(P:Program)(t:TypeId):Option Nat :=
 match P.underlying t with
 |some (.slice e)=>(P.info? e).map (·.size)
 |_=>none
theorem J6{P:Program}{t:TypeId}{sz:Nat}(h:elemSize P t=some sz):∃e i,P.underlying t=some (.slice e)∧P.info? e=some i∧i.size=sz:=by
 unfold elemSize at h;split at h
 ·simp_all
 grind
theorem Aa.b9x{t:TypeId}{x d:Operand}{e:TypeId}{cs:List FV}{n sz:Nat}{k:IntKind}{i:Int}(s:AU E.Γ L x=some (.p (.lst e cs n)))(A:AU E.Γ L d=some (.p (.int k i)))(y:elemSize E.P t=some sz)(M:0≤i)(K:i<n)
 (q:Q (.p (.Fb (cs.drop (i.toNat*sz)))) H nx):Aa E w ⟨dst,.indexAddr t x d,ty,pos,af,gd⟩ L H nx Q :=
 Aa.quiet q fun m F σ j h f=>by
  obtain⟨S,r,J,I,G⟩:=J6 y;have c:=CQ h f A;have:=Bz h f s;generalize hv:ev j x=v at this;cases this with
  |p a =>
   cases a with
   |nil=>omega
   |room=>omega
   |lst C z u a B =>
    rename_i b o g O N ro;refine⟨.pointer (some ⟨b,o+i.toNat*sz,some g⟩),fun _=>by simp only[BO,FI,J,hv,c,I,M,K,and_self,if_true,G],.p ?_⟩;refine .Fb C z rfl ?_ (Dt.drop _ a) (KA B _);have:=OU (k:=i.toNat*sz) u;simp_all
theorem Ko{Γ:Nat→Option (List Value×TypeId)}{m:Mem}{F:Nat→Prop}{σ:Nat→Value}{t:Tr Value}{b tag off len:Nat}{o:Operand}{e:TypeId}{cs:List FV}{z:Bool}(a:Ctx Γ m F σ H nx)(c:RL m F (htag H) σ nx L t)(h:AU Γ L o=some (.vec b tag off len))(d:hget H b=some (.vec e cs tag z)) :
 FU (σ b) off len (ev t o):=by
 have:=Bz a c h;cases this with
 |vec j g f=>exact(f tag (by simp[htag,d,HB.tag])).2 rfl
theorem Aa.b1a{t:TypeId}{x u:Operand}{e:TypeId}{cs:List FV}{b tag off len sz:Nat}{z:Bool}{k:IntKind}{i:Int}(C:AU E.Γ L x=some (.vec b tag off len))(j:hget H b=some (.vec e cs tag z))(K:AU E.Γ L u=some (.p (.int k i)))
 (G:elemSize E.P t=some sz) (U:0≤i) (S:i<len) (q:Q (.E8 b tag (off+i.toNat*sz)) H nx):Aa E w ⟨dst,.indexAddr t x u,ty,pos,af,gd⟩ L H nx Q :=
 Aa.quiet q fun m F σ W r y=>by
  obtain⟨e',B,O,N,M⟩:=J6 G;have h:=CQ r y K;have a:=Ko r y C j;obtain⟨f,I⟩:=r.hp b _ j;rcases I with⟨s,A,d⟩|⟨c,g,V,s,A,d,r4,Z,Y,X⟩
  ·rcases d with⟨d,_⟩|⟨b',o',g',d,_⟩<;>rw[d] at a<;>simp only[FU,Df] at a<;>omega
  ·rw[s] at a
   simp only[FU] at a;refine⟨.pointer (some ⟨c,off+i.toNat*sz,some g⟩),fun _=>by simp only[BO,FI,O,a,h,N,U,S,and_self,if_true,M],.E8 f rfl fun n J=>?_⟩;simp only[htag,j,HB.tag,Option.map_some,Option.some.injEq,Tg.vec.injEq] at J;grind
theorem Aa.vJ{x:Operand}{t e e':TypeId}{cs:List FV}{n:Nat}(c:AU E.Γ L x=some (.p (.lst e cs n)))(d:E.P.underlying t=some (.slice e'))(q:Q (.p (.int .i64 n)) H nx) :
 Aa E w ⟨dst,.call { callee:=.builtin .len,args:=#[x],argTypes:=#[t] },ty,pos,af,gd⟩ L H nx Q :=
 Aa.quiet q fun m F σ b k j=>by
  have:=Bz k j c;generalize hv:ev b x=v at this;refine⟨.int .i64 n,fun _=>?_,.p (.int _ _)⟩;have h:v=.slice none 0 0∧n=0∨∃a g,v=.slice a n g:=by
   cases this with
   |p f =>
    cases f with
    |nil=>simp
    |room=>simp
    |lst=>simp
  rcases h with⟨rfl,rfl⟩|⟨a,g,rfl⟩<;>simp[BO,FI,ZR,d,hv]
theorem Aa.lenV{x:Operand}{t e e':TypeId}{cs:List FV}{b tag off len:Nat}{z:Bool}(y:AU E.Γ L x=some (.vec b tag off len))(k:hget H b=some (.vec e cs tag z))(A:E.P.underlying t=some (.slice e'))(q:Q (.p (.int .i64 len)) H nx) :
 Aa E w ⟨dst,.call { callee:=.builtin .len,args:=#[x],argTypes:=#[t] },ty,pos,af,gd⟩ L H nx Q :=
 Aa.quiet q fun m F σ s r J=>by
  have d:=Ko r J y k;obtain⟨C,B⟩:=r.hp b _ k;refine⟨.int .i64 len,fun _=>?_,.p (.int _ _)⟩;have h:∃a g,ev s x=.slice a len g:=by
   rcases B with⟨j,u,f⟩|⟨c,g,K,j,u,f,S,O,N,M⟩
   ·rcases f with⟨f,_⟩|⟨X,U,W,f,_⟩<;>rw[f] at d<;>simp only[FU,Df] at d<;>obtain⟨I,V,G⟩:=d<;>subst G<;>exact⟨_,_,I⟩
   ·rw[j] at d
    exact⟨_,_,d⟩
  obtain⟨a,g,h⟩:=h;simp[BO,FI,ZR,A,h]
theorem Aa.c8c{x:Operand}{t:TypeId}{s:ByteArray}(a:AU E.Γ L x=some (.p (.str s)))(b:E.P.underlying t=some .string)(q:Q (.p (.int .i64 s.size)) H nx) :
 Aa E w ⟨dst,.call { callee:=.builtin .len,args:=#[x],argTypes:=#[t] },ty,pos,af,gd⟩ L H nx Q :=
 Aa.quiet q fun m F σ e d c=>⟨.int .i64 s.size,fun _=>by simp[BO,FI,ZR,b,Nh d c a],.p (.int _ _)⟩
theorem iK{Γ:Nat→Option (List Value×TypeId)}{m:Mem}{F:Nat→Prop}{σ:Nat→Value}{e:TypeId}{cs:List PV}{vs:List Value}(h:Ctx Γ m F σ H nx)(d:Dv m F (htag H) σ nx cs vs)(b:vs.all BK=true) :
 Ctx Γ (m.alloc (.cells vs e 0 false)) F (upd σ nx (.pointer (some ⟨m.size,0,none⟩))) ((nx,.box e cs)::H) (nx+1) ∧
 Step m F σ H nx (m.alloc (.cells vs e 0 false)) F (upd σ nx (.pointer (some ⟨m.size,0,none⟩))) ((nx,.box e cs)::H) (nx+1)∧Quiet m (m.alloc (.cells vs e 0 false)):=by
 refine h.new (by simp[Mem.alloc]) (fun c b=>by rw[Mem.Bj,if_neg (by omega)]) (by simp only[Mem.alloc];omega) (fun c b=>by simp only[Dp,Option.some.injEq] at b;omega) ?_;refine⟨m.size,vs,rfl,by simp[Mem.alloc],fun a=>cr _ (h.fr _ a),by rw[Mem.Bj,if_pos rfl],?_,b⟩;exact d.mono (fun c a=>⟨a,by rw[Mem.Bj,if_neg (by have:=h.fr c a;omega)]⟩) (kZ (Γ:=Γ) (m:=m) (F:=F) _ _) (cL _)
theorem Aa.box{e:TypeId}{x:Operand}{r:PV}(c:AU E.Γ L x=some r)(d:Uh r)(q:Q (.ref nx 0) ((nx,.box e (Jt r))::H) (nx+1)):Aa E w ⟨dst,.box e x,ty,pos,af,gd⟩ L H nx Q:=by
 intro m F σ t b g;obtain⟨f,a⟩:=LW d (Bz b g c);obtain⟨k,j,h⟩:=iK (e:=e) b f a;refine Gy.op (v:=.pointer (some ⟨m.size,0,none⟩)) (fun _=>?_) ⟨_,_,_,F,_,q,k,?_,j,fun _=>h⟩
 ·simp only[BO,FI,a,if_true]
 ·exact .ref (bL _) rfl fun _=>⟨m.size,upd_same _ _ _,rfl⟩
theorem Dv.zero{m:Mem}{F:Nat→Prop}{T:Nat→Option Tg}{σ:Nat→Value}{n:Nat}{z:List Value}(h:z.all Am.plainCell=true):Dv m F T σ n (z.map fun v=>.p (Ij v)) z:=by
 have:=Dv.lC (T:=T) (σ:=σ) (n:=n) (IQ (m:=m) (F:=F) h);rw[fp] at this;exact this
theorem Aa.alloc{e:TypeId}{z:List Value}(a:Cb E.P e=some z)(q:Q (.ref nx 0) ((nx,.box e (z.map fun v=>.p (Ij v)))::H) (nx+1)):Aa E w ⟨dst,.alloc e,ty,pos,af,gd⟩ L H nx Q:=by
 intro m F σ t c h;obtain⟨_,_,_,_,_,b⟩:=BI a;obtain⟨g,f,d⟩:=iK (e:=e) c (Dv.zero b) (Dl b);refine Gy.op (v:=.pointer (some ⟨m.size,0,none⟩)) (fun _=>?_) ⟨_,_,_,F,_,q,g,?_,f,fun _=>d⟩
 ·simp only[BO,FI,a,Option.map_some]
 ·exact .ref (bL _) rfl fun _=>⟨m.size,upd_same _ _ _,rfl⟩
theorem Aa.Gl{t:TypeId}{a x:Operand}{b off:Nat}{e:TypeId}{cs:List PV}{r:PV}{i:TypeInfo}(X:AU E.Γ L a=some (.ref b off))(S:AU E.Γ L x=some r)(s:hget H b=some (.box e cs))(U:Uh r)
 (hi:E.P.info? t=some i) (hl:(Jt r).length=i.size) (h0:0<i.size) (W:off+i.size≤cs.length) (q:Q (.D5 []) (hput H b (.box e (Dh cs off (Jt r)))) nx):Aa E true ⟨dst,.store t a x,ty,pos,af,gd⟩ L H nx Q:=by
 intro m F σ j y K;obtain⟨c,Z,u⟩:=Y9 y K X s;obtain⟨J,Y⟩:=LW U (Bz y K S);obtain⟨V,c',p,G,N,C,r4,B,M⟩:=y.hp b _ s;rw[u] at G;cases G;have I:=J.length;have A:=B.length;have z:LM E.P t ⟨c,off,none⟩ (ev j x) m=some (m.put c (.cells (splice p off (ev j x).cells.toList) e 0 false)):=by
  unfold LM Gu;simp only[NK,Option.getD_none,beq_self_eq_true,Bool.true_and,Bool.and_eq_true,decide_eq_true_eq];grind
 have f:∀d,c≠d→(m.put c (.cells (splice p off (ev j x).cells.toList) e 0 false)).get d=m.get d:=fun d g=>by rw[Mem.get_put,if_neg g]
 obtain⟨c1,c2⟩:=y.change (m':=m.put c (.cells (splice p off (ev j x).cells.toList) e 0 false)) (x':=.box e (Dh cs off (Jt r))) (s':=σ b) s trivial (fun _=>rfl) (ab _)
  (fun d _ g=>f d fun e=>g (by rw[u,e];rfl)) (fun k k1 k2 O=>by
   have:=O c (by rw[u];rfl);simp only[Mem.put];omega) (fun d g=>.inl g) (by
   refine⟨c,splice p off (ev j x).cells.toList,u,N,C,by rw[Mem.get_put,if_pos rfl],?_,J4 _ M Y⟩;refine(Dv.splice off B J).mono (fun d g=>⟨g,f d fun e=>C (e▸g)⟩) (EJ (x':=.box e (Dh cs off (Jt r))) s trivial fun _=>rfl) (ab _))
 refine Gy.op (v:=undef) (fun _=>?_) ⟨_,_,_,F,_,q,c1,.D5 .nil,c2,fun h=>by cases h⟩;simp only[BO,FI,Z,z,Option.map_some]
theorem Aa.c2i{t:TypeId}{a x:Operand}{b tag off:Nat}{e:TypeId}{cs C:List FV}{z:Bool}{r:PV}{i:TypeInfo}(ha:AU E.Γ L a=some (.E8 b tag off))(Y:AU E.Γ L x=some r)(K:hget H b=some (.vec e cs tag z))(hn:Uh r)
 (hf:Jt r=C.map .p) (hi:E.P.info? t=some i) (hl:C.length=i.size) (h0:0<i.size) (hle:off+i.size≤cs.length) (q:Q (.D5 []) (hput H b (.vec e (Dh cs off C) tag z)) nx):Aa E true ⟨dst,.store t a x,ty,pos,af,gd⟩ L H nx Q:=by
 intro m F σ y B U;obtain⟨c,k,g,h3,u⟩:=rD B U ha K;obtain⟨M,h6⟩:=LW hn (Bz B U Y);rw[hf] at M;obtain⟨hlt,Z⟩:=B.hp b _ K;rcases Z with⟨G,O,s⟩|⟨c',g',A,G,O,s,r4,N,W,V⟩
 ·rcases s with⟨s,_⟩|⟨b',o',g',s,_⟩<;>rw[s] at u<;>cases u
 rw[u] at G;cases G;have S:=M.length;have J:=N.length;have I:LM E.P t ⟨c,off,some g⟩ (ev y x) m=some (m.put c (.cells (splice A off (ev y x).cells.toList) e g false)):=by
  unfold LM Gu;simp only[NK,Option.getD_some,beq_self_eq_true,Bool.true_and,Bool.and_eq_true,decide_eq_true_eq];grind
 have f:∀d,c≠d→(m.put c (.cells (splice A off (ev y x).cells.toList) e g false)).get d=m.get d:=fun d j=>by rw[Mem.get_put,if_neg j]
 obtain⟨c1,c2⟩:=B.change (m':=m.put c (.cells (splice A off (ev y x).cells.toList) e g false)) (x':=.vec e (Dh cs off C) tag z) (s':=σ b) K (ab _) (fun _=>rfl) (ab _)
  (fun d _ j=>f d fun e=>j (by rw[u,e];rfl)) (fun k k1 k2 X=>by
   have:=X c (by rw[u];rfl);simp only[Mem.put];omega) (fun d j=>.inl j) (by
   refine .inr ⟨c,g,splice A off (ev y x).cells.toList,u,O,s,by rw[Mem.get_put,if_pos rfl],?_,J4 _ W h6,V⟩;exact(Dt.splice off N (Dt.X7 M)).mono (fun d j=>⟨j,f d fun e=>s (e▸j)⟩))
 refine Gy.op (v:=undef) (fun _=>?_) ⟨_,_,_,F,_,q,c1,.D5 .nil,c2,fun h=>by cases h⟩;simp only[BO,FI,h3,I,Option.map_some]
end
end Go.Vm
